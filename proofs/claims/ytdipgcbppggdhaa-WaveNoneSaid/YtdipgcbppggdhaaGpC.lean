/- Package bits: the bits of a leaf; how many bits there are; how many are 1; how many are alike. -/
import Derived.Test.YtdipgcbppggdhaaBw1
namespace Go.Proofs.Ytdipgcbppggdhaa
set_option maxRecDepth 100000
open Go.RowKit

set_option maxHeartbeats 1000000 in
theorem bbits_is (l : List Bool) (w : World) (h : l.length ≤ 64) :
    Calls Try.prog 48 #[.agg #[.int .i64 1, .int .i64 0, .int .i64 0, .int .i64 0, .int .i64 0, .int .u64 (bN l), .int .u64 l.length]] w fun e w' =>
      e = .returned (.agg #[.int .u64 (bN l), .int .i64 l.length]) ∧ Below w.heap.size w w' := by
  have h1 : (l.length : Int) ≤ 64 := by omega
  clear h
  generalize (bN l : Int) = x at *
  generalize l.length = n at *
  go_enter Try.func48, Try.ntmps48
  go_wp2_with fail
  refine bodyPost_ret (v := .agg #[.int .u64 x, .int .i64 n]) (by simp [results, Try.results48, go_sem]) rfl ⟨rfl, ?_⟩
  exact ((Below.refl w.heap.size w).alloc (Nat.le_refl _) _).alloc (by simp) _
section
variable {K : Nat → Prop} {p : Nat} {s : Ar} {w : World}
set_option maxHeartbeats 1000000 in
theorem blen_is {h : Int} {v : View} (hv : Vw s h v) (ha : Ars w K p s) (hf : s.Fit) :
    Calls Try.prog 34 #[.pointer (some ⟨p, 0, none⟩), .int .i64 h] w fun r w' => r = .returned (.int .i64 v.len) ∧ Ars w' K p s ∧ Below w.heap.size w w' := by
  cases v with
  | none =>
    obtain ⟨x, hx⟩ := row_none hv ha hf
    have H := Lib.hid hx
    clear hv ha hf hx
    show Calls _ _ _ _ fun r w' => r = .returned (.int .i64 ((0 : Nat) : Int)) ∧ _
    go_enter Try.func34, Try.ntmps34
    go_wp2_with fail
    refine H.out.mono ?_
    rintro e w1 ⟨rfl, ha, hk⟩
    go_wp2_with fail
    go_ret
    exact ⟨rfl, ha.alloc _, hk.alloc hk.size _⟩
  | leaf l =>
    have H := Lib.hid (row_leaf hv ha hf)
    have hl : l.length ≤ 64 := hv.2.2
    have hl' : (l.length : Int) ≤ 64 := by omega
    clear hv ha hf hl
    show Calls _ _ _ _ fun r w' => r = .returned (.int .i64 ((l.length : Nat) : Int)) ∧ _
    go_enter Try.func34, Try.ntmps34
    go_wp2_with fail
    refine H.out.mono ?_
    rintro e w1 ⟨rfl, ha, hk⟩
    go_wp2_with fail
    go_ret
    exact ⟨rfl, ha.alloc _, hk.alloc hk.size _⟩
  | fork k0 k1 m o =>
    have H := Lib.hid (row_fork hv ha hf)
    have hl : m ≤ 1000000 := hv.2.2.1
    have hl' : (m : Int) ≤ 1000000 := by omega
    clear hv ha hf hl
    show Calls _ _ _ _ fun r w' => r = .returned (.int .i64 ((m : Nat) : Int)) ∧ _
    go_enter Try.func34, Try.ntmps34
    go_wp2_with fail
    refine H.out.mono ?_
    rintro e w1 ⟨rfl, ha, hk⟩
    go_wp2_with fail
    go_ret
    exact ⟨rfl, ha.alloc _, hk.alloc hk.size _⟩
set_option maxHeartbeats 4000000 in
theorem bones_is {h : Int} {v : View} (hv : Vw s h v) (ha : Ars w K p s) (hf : s.Fit) :
    Calls Try.prog 57 #[.pointer (some ⟨p, 0, none⟩), .int .i64 h] w fun r w' => r = .returned (.int .i64 v.ones) ∧ Ars w' K p s ∧ Below w.heap.size w w' := by
  cases v with
  | none =>
    obtain ⟨x, hx⟩ := row_none hv ha hf
    have H := Lib.hid hx
    clear hv ha hf hx
    show Calls _ _ _ _ fun r w' => r = .returned (.int .i64 ((0 : Nat) : Int)) ∧ _
    go_enter Try.func57, Try.ntmps57
    go_wp2_with fail
    refine H.out.mono ?_
    rintro e w1 ⟨rfl, ha, hk⟩
    go_wp2_with fail
    go_ret
    exact ⟨rfl, ha.alloc _, hk.alloc hk.size _⟩
  | leaf l =>
    have H := Lib.hid (row_leaf hv ha hf)
    have hl : l.length ≤ 64 := hv.2.2
    have hl' : (l.length : Int) ≤ 64 := by omega
    have HB := fun w => Lib.hid (bbits_is l w hl)
    have HR := fun w => lrank_is l l.length w hl (Nat.le_refl _)
    rw [List.take_length] at HR
    replace HR := fun w => Lib.hid (HR w)
    clear hv ha hf hl
    show Calls _ _ _ _ fun r w' => r = .returned (.int .i64 ((l.count true : Nat) : Int)) ∧ _
    generalize l.count true = c at *
    generalize (bN l : Int) = x at *
    generalize l.length = n at *
    go_enter Try.func57, Try.ntmps57
    go_wp2_with fail
    refine H.out.mono ?_
    rintro e w1 ⟨rfl, ha, hk⟩
    go_wp2_with fail
    have hbx := heap_alloc_new w1 (.cells #[.int .i64 1, .int .i64 0, .int .i64 0, .int .i64 0, .int .i64 0, .int .u64 x, .int .u64 n] 47)
    have hb0 := Lib.hid (hk.alloc hk.size (.cells #[.int .i64 1, .int .i64 0, .int .i64 0, .int .i64 0, .int .i64 0, .int .u64 x, .int .u64 n] 47))
    have Ha := Lib.hid (ha.alloc (.cells #[.int .i64 1, .int .i64 0, .int .i64 0, .int .i64 0, .int .i64 0, .int .u64 x, .int .u64 n] 47))
    clear ha hk
    generalize w1.alloc (.cells #[.int .i64 1, .int .i64 0, .int .i64 0, .int .i64 0, .int .i64 0, .int .u64 x, .int .u64 n] 47) = w2 at *
    generalize w1.heap.size = z at *
    have y0 : w2.cell? ⟨z, 0, none⟩ = some (.int .i64 1) := cell_of_row _ _ _ _ _ _ hbx
    have y1 : w2.cell? ⟨z, 1, none⟩ = some (.int .i64 0) := cell_of_row _ _ _ _ _ _ hbx
    have y2 : w2.cell? ⟨z, 2, none⟩ = some (.int .i64 0) := cell_of_row _ _ _ _ _ _ hbx
    have y3 : w2.cell? ⟨z, 3, none⟩ = some (.int .i64 0) := cell_of_row _ _ _ _ _ _ hbx
    have y4 : w2.cell? ⟨z, 4, none⟩ = some (.int .i64 0) := cell_of_row _ _ _ _ _ _ hbx
    have y5 : w2.cell? ⟨z, 5, none⟩ = some (.int .u64 x) := cell_of_row _ _ _ _ _ _ hbx
    have y6 : w2.cell? ⟨z, 6, none⟩ = some (.int .u64 n) := cell_of_row _ _ _ _ _ _ hbx
    have Hz := Lib.hid (lt_heap hbx)
    clear hbx
    have hw1 : wrap64 (n : Int) = (n : Int) := IntWalk.wrap64_in _ (by omega)
    have hw2 : IntKind.i64.wrap (n : Int) = (n : Int) := (IntWalk.i64_left _).trans hw1
    go_region_held3 (fun w' => w'.cell? ⟨z, 0, none⟩ = some (.int .i64 1) ∧ w'.cell? ⟨z, 1, none⟩ = some (.int .i64 0) ∧ w'.cell? ⟨z, 2, none⟩ = some (.int .i64 0) ∧ w'.cell? ⟨z, 3, none⟩ = some (.int .i64 0) ∧ w'.cell? ⟨z, 4, none⟩ = some (.int .i64 0) ∧ w'.cell? ⟨z, 5, none⟩ = some (.int .u64 x) ∧ w'.cell? ⟨z, 6, none⟩ = some (.int .u64 n)) (first | assumption | exact ⟨y0, y1, y2, y3, y4, y5, y6⟩ | go_keep)
      ((first | (go_at_call 56; refine (HR _).out.mono ?_; rintro e w4 ⟨rfl, k4⟩; have hq4 := And.intro ((k4.cell (p := ⟨z, 0, none⟩) Hz3.out).trans hq3.1) (And.intro ((k4.cell (p := ⟨z, 1, none⟩) Hz3.out).trans hq3.2.1) (And.intro ((k4.cell (p := ⟨z, 2, none⟩) Hz3.out).trans hq3.2.2.1) (And.intro ((k4.cell (p := ⟨z, 3, none⟩) Hz3.out).trans hq3.2.2.2.1) (And.intro ((k4.cell (p := ⟨z, 4, none⟩) Hz3.out).trans hq3.2.2.2.2.1) (And.intro ((k4.cell (p := ⟨z, 5, none⟩) Hz3.out).trans hq3.2.2.2.2.2.1) ((k4.cell (p := ⟨z, 6, none⟩) Hz3.out).trans hq3.2.2.2.2.2.2))))))) | (go_at_call 48; refine (HB _).out.mono ?_; rintro e w3 ⟨rfl, k3⟩; have hq3 := And.intro ((k3.cell (p := ⟨z, 0, none⟩) Hz.out).trans y0) (And.intro ((k3.cell (p := ⟨z, 1, none⟩) Hz.out).trans y1) (And.intro ((k3.cell (p := ⟨z, 2, none⟩) Hz.out).trans y2) (And.intro ((k3.cell (p := ⟨z, 3, none⟩) Hz.out).trans y3) (And.intro ((k3.cell (p := ⟨z, 4, none⟩) Hz.out).trans y4) (And.intro ((k3.cell (p := ⟨z, 5, none⟩) Hz.out).trans y5) ((k3.cell (p := ⟨z, 6, none⟩) Hz.out).trans y6)))))); have Hz3 := Lib.hid (show z < w3.heap.size from Nat.lt_of_lt_of_le Hz.out k3.size))))
    all_goals
      go_wp2_with fail
      go_ret
      have hf := (Below.trans (Below.refl w2.heap.size w2).drew k3).trans (k4.mono k3.size)
      exact ⟨rfl, Ha.out.below hf, hb0.out.trans (hf.mono hb0.out.size)⟩
  | fork k0 k1 m o =>
    have H := Lib.hid (row_fork hv ha hf)
    have hl : o ≤ 1000000 := hv.2.2.2
    have hl' : (o : Int) ≤ 1000000 := by omega
    clear hv ha hf hl
    show Calls _ _ _ _ fun r w' => r = .returned (.int .i64 ((o : Nat) : Int)) ∧ _
    go_enter Try.func57, Try.ntmps57
    go_wp2_with fail
    refine H.out.mono ?_
    rintro e w1 ⟨rfl, ha, hk⟩
    go_wp2_with fail
    go_ret
    exact ⟨rfl, ha.alloc _, hk.alloc hk.size _⟩
end
end Go.Proofs.Ytdipgcbppggdhaa
namespace Go.Proofs.Ytdipgcbppggdhaa
set_option maxRecDepth 100000
open Go.RowKit

/-- The tree lies at block q, over the arena s at block p; e is its error. -/
structure BTre (w : World) (K : Nat → Prop) (q p : Nat) (s : Ar) (e : Int) : Prop where
  hq : w.heap[q]? = some (.cells #[.pointer (some ⟨p, 0, none⟩), .int .i64 e] 84 (0, 0))
  kq : ¬ K q
  ars : Ars w (fun b => K b ∨ b = q) p s

section
variable {w w' : World} {K : Nat → Prop} {q p : Nat} {s s' : Ar} {e : Int}
theorem BTre.cell (h : BTre w K q p s e) (i : Nat) : w.cell? ⟨q, i, none⟩ = (#[.pointer (some ⟨p, 0, none⟩), .int .i64 e] : Array Value)[i]? := cell_of_row _ _ _ _ _ _ h.hq
theorem BTre.c0 (h : BTre w K q p s e) : w.cell? ⟨q, 0, none⟩ = some (.pointer (some ⟨p, 0, none⟩)) := h.cell 0
theorem BTre.c1 (h : BTre w K q p s e) : w.cell? ⟨q, 1, none⟩ = some (.int .i64 e) := h.cell 1
theorem BTre.fz (h : BTre w K q p s e) (i : Nat) : w.frozen? ⟨q, i, none⟩ = false := frozen_of_row _ _ _ _ _ h.hq
theorem BTre.arena (h : BTre w K q p s e) (ha : Ars w' (fun b => K b ∨ b = q) p s') (hk : Kept (fun b => K b ∨ b = q) w w') : BTre w' K q p s' e :=
  ⟨(hk.block q (lt_heap h.hq) (.inr rfl)).trans h.hq, h.kq, ha⟩
theorem BTre.below (h : BTre w K q p s e) (hb : Below w.heap.size w w') : BTre w' K q p s e := h.arena (h.ars.below hb) (Kept.of_below hb _)
theorem BTre.alloc (h : BTre w K q p s e) (o : Obj) : BTre (w.alloc o) K q p s e := h.below ((Below.refl _ _).alloc (Nat.le_refl _) o)
theorem BTre.newK {K' : Nat → Prop} (h : BTre w K q p s e) (hb : Below w.heap.size w w') (hk : ∀ b, K' b → b < w'.heap.size ∧ (K b ∨ w.heap.size ≤ b)) : BTre w' K' q p s e := by
  have hlt := lt_heap h.hq
  refine ⟨(hb.block q hlt).trans h.hq, fun e => ?_, h.ars.newK hb fun b e => ?_⟩
  · rcases (hk q e).2 with x | x
    · exact h.kq x
    · omega
  · rcases e with e | rfl
    · exact ⟨(hk b e).1, by rcases (hk b e).2 with x | x; exact .inl (.inl x); exact .inr x⟩
    · exact ⟨Nat.lt_of_lt_of_le hlt hb.size, .inl (.inr rfl)⟩
theorem BTre.more {K' : Nat → Prop} (h : BTre w K q p s e) (hk : ∀ b, K' b → K b) : BTre w K' q p s e :=
  ⟨h.hq, fun x => h.kq (hk q x), h.ars.more fun b x => x.imp (hk b) id⟩
theorem BTre.allocK (h : BTre w K q p s e) (o : Obj) : BTre (w.alloc o) (fun b => K b ∨ b = w.heap.size) q p s e :=
  h.newK ((Below.refl _ _).alloc (Nat.le_refl _) _) fun b hb => by
    rcases hb with hb | rfl
    · exact ⟨by have := h.ars.lt b (.inl hb); simp; omega, .inl hb⟩
    · exact ⟨by simp, .inr (Nat.le_refl _)⟩
theorem BTre.drew (h : BTre w K q p s e) : BTre w.drew K q p s e := ⟨h.hq, h.kq, h.ars.drew⟩
theorem BTre.drewN (h : BTre w K q p s e) (m : Nat) : BTre (w.drewN m) K q p s e := ⟨h.hq, h.kq, h.ars.drewN m⟩
theorem BTre.set1 (h : BTre w K q p s e) (v : Int) : BTre (w.setCell ⟨q, 1, none⟩ (.int .i64 v)) K q p s v :=
  ⟨by rw [heap_setCell_same _ _ _ _ _ _ h.hq]; rfl, h.kq, h.ars.setCell (.inr rfl) _⟩
theorem BTre.put (h : BTre w K q p s e) {b : Nat} (hb : K b) (i : Nat) (v : Value) : BTre (w.setCell ⟨b, i, none⟩ v) K q p s e :=
  ⟨(heap_setCell_other _ _ _ _ (by rintro rfl; exact h.kq hb)).trans h.hq, h.kq, h.ars.setCell (.inl hb) v⟩
theorem kept_part {K' : Nat → Prop} (h : Kept (fun b => K b ∨ K' b) w w') : Kept K w w' := h.mono fun _ _ h => .inl h
end
theorem Snd.fit {s : Ar} (h : Snd s) : s.Fit := Ar.Ok.fit h (by decide)
theorem bwrap_small {x : Int} (h : -9223372036854775808 ≤ x) (h' : x < 9223372036854775808) : IntKind.i64.wrap x = x := (IntWalk.i64_left x).trans (IntWalk.wrap64_in x ⟨h, by omega⟩)
theorem bwrap_u64 {x : Int} (h : 0 ≤ x) (h' : x < 18446744073709551616) : IntKind.u64.wrap x = x := IntWalk.u64_in x ⟨h, by omega⟩
section
variable {K : Nat → Prop} {q p : Nat} {s s' s1 : Ar} {e : Int} {w : World}
set_option maxHeartbeats 1000000 in
theorem bkeep_is (h : Int) (hf : s.Fit) (ha : BTre w K q p s e) :
    Calls Try.prog 82 #[.pointer (some ⟨q, 0, none⟩), .int .i64 h] w fun r w' => r = .returned (.int .i64 h) ∧ BTre w' K q p (s.keep h).1 e ∧ Kept K w w' := by
  have c0 := ha.c0
  have H := Lib.hid (keep_is h (s' := (s.keep h).1) (e := (s.keep h).2) rfl ha.ars hf)
  have Ha := Lib.hid ha
  clear ha hf
  go_enter Try.func82, Try.ntmps82
  go_wp2_with fail
  refine H.out.mono ?_
  rintro e w1 ⟨rfl, ha, hk⟩
  go_wp2_with fail
  go_ret
  exact ⟨rfl, Ha.out.arena ha hk, kept_part hk⟩
/-- While a list is dropped. -/
structure Dropping (K : Nat → Prop) (q p : Nat) (s : Ar) (e : Int) (l : List Int) (g off : Nat) (w : World) (j : Nat) (W : World) : Prop where
  tre : BTre W K q p (s.drops (l.take j)) e
  kept : Kept K w W
  cells : ∀ i, i < l.length → W.cell? ⟨g, off + i, none⟩ = some (.int .i64 (l.getD i 0))
theorem drops_snoc (s : Ar) (l : List Int) (x : Int) : s.drops (l ++ [x]) = ((s.drops l).drop x).1 := by simp [Ar.drops]
set_option maxHeartbeats 2000000 in
theorem bdrop_is {B : Int} (l : List Int) {g off cap : Nat} (hg : K g) (hl : l.length ≤ 10) (hlc : l.length ≤ cap) (hc : ∀ i, i < l.length → w.cell? ⟨g, off + i, none⟩ = some (.int .i64 (l.getD i 0))) (ok : s.Ok B) (hB : B ≤ 1000000000000) (ha : BTre w K q p s e) :
    Calls Try.prog 93 #[.pointer (some ⟨q, 0, none⟩), .slice (some ⟨g, off, none⟩) l.length cap] w fun r w' => r = .returned (.tuple #[]) ∧ BTre w' K q p (s.drops l) e ∧ Kept K w w' := by
  have h0 := Lib.hid (show Dropping K q p s e l g off w 0 w from ⟨ha, Kept.refl _ _, hc⟩)
  have hl' : (l.length : Int) ≤ 10 := by omega
  have hlc' : (l.length : Int) ≤ cap := by omega
  clear hc ha
  go_enter Try.func93, Try.ntmps93
  go_wp2_with fail
  go_loopw [8] (fun i W => ∃ j : Nat, i = .int .i64 j ∧ j ≤ l.length ∧ Dropping K q p s e l g off w j W) (fun i _ => l.length - (intOf i).toNat)
  case atStart => exact ⟨0, rfl, Nat.zero_le _, h0.out⟩
  case round =>
    obtain ⟨j, rfl, hj, hd⟩ := hrel
    clear h0
    have Hd := Lib.hid hd
    by_cases hlt : j < l.length
    · have hlt' : (j : Int) < (l.length : Int) := by omega
      have c0 := hd.tre.c0
      have cx := hd.cells j hlt
      have ho := ok_drops (l.take j) ok
      have hx := drops_snoc s (l.take j) (l.getD j 0)
      have hs : l.take (j + 1) = l.take j ++ [l.getD j 0] := by
        rw [List.take_succ_eq_append_getElem hlt]
        simp [List.getD, hlt]
      have H := Lib.hid (drop_is (l.getD j 0) (s' := ((s.drops (l.take j)).drop (l.getD j 0)).1) (e := ((s.drops (l.take j)).drop (l.getD j 0)).2) rfl hd.tre.ars (ho.fit hB))
      have Hs := Lib.hid (show s.drops (l.take (j + 1)) = ((s.drops (l.take j)).drop (l.getD j 0)).1 by rw [hs]; exact hx)
      have Hlt := Lib.hid hlt
      have Hg := Lib.hid hg
      clear hx hs ho hd ok hlt hg
      generalize l.getD j 0 = y at *
      go_wp2_with fail
      refine H.out.mono ?_
      rintro e w2 ⟨rfl, ha2, hk2⟩
      have Hd2 := Lib.hid (show Dropping K q p s _ l g off w (j + 1) w2 from ⟨by rw [Hs.out]; exact Hd.out.tre.arena ha2 hk2, Hd.out.kept.trans (kept_part hk2), fun i hi => (World.cell?_of_block (hk2.block g (block_lt_of_cell (Hd.out.cells i hi)) (.inl Hg.out))).trans (Hd.out.cells i hi)⟩)
      clear ha2 hk2
      go_wp2_with fail
      go_roundw
      case rel => exact ⟨j + 1, by go_num, by have := Hlt.out; omega, Hd2.out⟩
      case measure => simp [intOf]; have := Hlt.out; omega
    · obtain rfl : j = l.length := by omega
      have hfin := Lib.hid (And.intro hd.tre hd.kept)
      clear hd Hd
      go_wp2_with fail
      go_end0
      have h1 := hfin.out.1
      rw [List.take_length] at h1
      exact ⟨rfl, h1, hfin.out.2⟩
end
end Go.Proofs.Ytdipgcbppggdhaa
namespace Go.Proofs.Ytdipgcbppggdhaa
set_option maxRecDepth 100000
open Go.RowKit

section
variable {K : Nat → Prop} {q p : Nat} {s s' s1 : Ar} {e e' r : Int} {w : World}
theorem box_kids {W : World} {z : Nat} {x : Nd} (h : W.heap[z]? = some (.cells #[.int .i64 x.tag, .int .i64 x.k0, .int .i64 x.k1, .int .i64 x.k2, .int .i64 x.k3, .int .u64 x.A, .int .u64 x.B] 47 (0, 0))) : ∀ i, i < x.kids.length → W.cell? ⟨z, 1 + i, none⟩ = some (.int .i64 (x.kids.getD i 0)) := by
  intro i hi
  have hi : i < 4 := hi
  have : i = 0 ∨ i = 1 ∨ i = 2 ∨ i = 3 := by omega
  rcases this with rfl | rfl | rfl | rfl <;> exact cell_of_row _ _ _ _ _ _ h
def NodeArg (x : Nd) : Value := .agg #[.int .i64 x.tag, .int .i64 x.k0, .int .i64 x.k1, .int .i64 x.k2, .int .i64 x.k3, .int .u64 x.A, .int .u64 x.B]
set_option maxHeartbeats 4000000 in
theorem bnode_is (x : Nd) (hn : nodeF s e x = (s', e', r)) (sn : Snd s) (ha : BTre w K q p s e) :
    Calls Try.prog 92 #[.pointer (some ⟨q, 0, none⟩), .agg #[.int .i64 x.tag, .int .i64 x.k0, .int .i64 x.k1, .int .i64 x.k2, .int .i64 x.k3, .int .u64 x.A, .int .u64 x.B]] w fun o w' => o = .returned (.int .i64 r) ∧ BTre w' K q p s' e' ∧ Kept K w w' := by
  obtain ⟨K1, hK1⟩ : ∃ K1 : Nat → Prop, K1 = fun b => K b ∨ b = w.heap.size := ⟨_, rfl⟩
  have HK1 := Lib.hid hK1
  replace ha := ha.allocK (.cells #[.int .i64 x.tag, .int .i64 x.k0, .int .i64 x.k1, .int .i64 x.k2, .int .i64 x.k3, .int .u64 x.A, .int .u64 x.B] 47)
  rw [← hK1] at ha
  have hx := heap_alloc_new w (.cells #[.int .i64 x.tag, .int .i64 x.k0, .int .i64 x.k1, .int .i64 x.k2, .int .i64 x.k3, .int .u64 x.A, .int .u64 x.B] 47)
  have Hk := Lib.hid ((Kept.refl K w).alloc (.cells #[.int .i64 x.tag, .int .i64 x.k0, .int .i64 x.k1, .int .i64 x.k2, .int .i64 x.k3, .int .u64 x.A, .int .u64 x.B] 47))
  have c0 := ha.c0
  have c1 := ha.c1
  have Ha := Lib.hid ha
  have Hx := Lib.hid hx
  have hz0 := Lib.hid (lt_heap hx)
  by_cases e0 : e = 0
  · subst e0
    unfold nodeF at hn
    rw [if_pos rfl] at hn
    have hs' : (s.make x).1.drops x.kids = s' := (Prod.mk.inj hn).1
    have he' : (s.make x).2.2 = e' := (Prod.mk.inj (Prod.mk.inj hn).2).1
    have hr : (s.make x).2.1 = r := (Prod.mk.inj (Prod.mk.inj hn).2).2
    subst hs' he' hr
    have HM := fun w K (ha : Ars w K p s) => Lib.hid (make_is x (s' := (s.make x).1) (h := (s.make x).2.1) (e := (s.make x).2.2) rfl ha sn (by decide))
    have ok1 := Lib.hid (ok_make sn x)
    clear hK1 hn ha hx sn
    generalize (s.make x).1 = s1 at *
    generalize (s.make x).2.1 = r at *
    generalize (s.make x).2.2 = e' at *
    go_enter Try.func92, Try.ntmps92
    go_wp2_with fail
    generalize w.alloc (.cells #[.int .i64 x.tag, .int .i64 x.k0, .int .i64 x.k1, .int .i64 x.k2, .int .i64 x.k3, .int .u64 x.A, .int .u64 x.B] 47) = w1 at *
    generalize w.heap.size = z at *
    have hzq : Hid (z ≠ q) := fun e => Ha.out.kq (by rw [HK1.out]; exact .inr e.symm)
    have zK : Hid (K1 z) := by show K1 z; rw [HK1.out]; exact .inr rfl
    have hKK : Hid (∀ b, K b → K1 b) := fun b h => by rw [HK1.out]; exact .inl h
    have x0 : w1.cell? ⟨z, 0, none⟩ = some (.int .i64 x.tag) := cell_of_row _ _ _ _ _ _ Hx.out
    have x1 : w1.cell? ⟨z, 1, none⟩ = some (.int .i64 x.k0) := cell_of_row _ _ _ _ _ _ Hx.out
    have x2 : w1.cell? ⟨z, 2, none⟩ = some (.int .i64 x.k1) := cell_of_row _ _ _ _ _ _ Hx.out
    have x3 : w1.cell? ⟨z, 3, none⟩ = some (.int .i64 x.k2) := cell_of_row _ _ _ _ _ _ Hx.out
    have x4 : w1.cell? ⟨z, 4, none⟩ = some (.int .i64 x.k3) := cell_of_row _ _ _ _ _ _ Hx.out
    have x5 : w1.cell? ⟨z, 5, none⟩ = some (.int .u64 x.A) := cell_of_row _ _ _ _ _ _ Hx.out
    have x6 : w1.cell? ⟨z, 6, none⟩ = some (.int .u64 x.B) := cell_of_row _ _ _ _ _ _ Hx.out
    go_cut [5] (fun v W => v = .int .i64 r ∧ BTre W K1 q p s1 e' ∧ Kept K w W ∧ W.heap[z]? = some (.cells #[.int .i64 x.tag, .int .i64 x.k0, .int .i64 x.k1, .int .i64 x.k2, .int .i64 x.k3, .int .u64 x.A, .int .u64 x.B] 47 (0, 0)))
    case first =>
      first | go_region_with (go_at_call 24; refine (HM _ _ Ha.out.drew.ars).out.mono ?_; rintro o w2 ⟨rfl, ha2, hk2⟩; have T2 := Lib.hid (Ha.out.drew.arena ha2 hk2); have d1 : w2.cell? ⟨q, 1, none⟩ = some (.int .i64 0) := T2.out.c1; have d2 : w2.frozen? ⟨q, 1, none⟩ = false := T2.out.fz 1; have Hx2 := Lib.hid ((hk2.block z hz0.out (.inl zK.out)).trans Hx.out); have Hk2 := Lib.hid (Hk.out.drew.trans (hk2.mono fun b _ h => .inl (hKK.out b h))); clear ha2 hk2) | fail
      all_goals
        have T3 := Lib.hid (T2.out.set1 e')
        have Hx3 := Lib.hid ((Below.heap_setCell w2 ⟨q, 1, none⟩ (.int .i64 e') z hzq.out).trans Hx2.out)
        have Hk3 := Lib.hid (Hk2.out.setCell (p := ⟨q, 1, none⟩) (.inl fun h => T2.out.kq (hKK.out q h)) (.int .i64 e'))
        go_wp2_with fail
        go_meet
        case rel => exact ⟨rfl, T3.out, Hk3.out, Hx3.out⟩
    case rest =>
      obtain ⟨rfl, t3, k3, hx3⟩ := hcut
      have T3 := Lib.hid t3
      have Hx3 := Lib.hid hx3
      have Hk3 := Lib.hid k3
      have HD := Lib.hid (bdrop_is (K := K1) (q := q) (p := p) (w := wc) (s := s1) (e := e') (B := 100000000004) (cap := 4) x.kids zK.out (by show 4 ≤ 10; omega) (by show 4 ≤ 4; omega) (box_kids hx3) ok1.out (by decide) t3)
      clear t3 k3 hx3 x0 x1 x2 x3 x4 x5 x6 c0 c1 HM Ha Hk hz0 Hx
      go_wp2_with fail
      refine HD.out.mono ?_
      rintro o w4 ⟨rfl, ha4, hk4⟩
      go_wp2_with fail
      go_ret
      exact ⟨rfl, ha4.more hKK.out, Hk3.out.trans (hk4.mono fun b _ h => hKK.out b h)⟩
  · unfold nodeF at hn
    rw [if_neg e0] at hn
    have hs' : s.drops x.kids = s' := (Prod.mk.inj hn).1
    have he' : e = e' := (Prod.mk.inj (Prod.mk.inj hn).2).1
    have hr : 0 = r := (Prod.mk.inj (Prod.mk.inj hn).2).2
    subst hs' he' hr
    have ok1 := Lib.hid sn
    have ge : (e == 0) = false := by simpa using e0
    clear hn ha hx sn e0
    have hzl : Hid (w.heap.size < (w.alloc (.cells #[.int .i64 x.tag, .int .i64 x.k0, .int .i64 x.k1, .int .i64 x.k2, .int .i64 x.k3, .int .u64 x.A, .int .u64 x.B] 47)).heap.size) := hz0
    go_enter Try.func92, Try.ntmps92
    go_wp2_with fail
    generalize w.alloc (.cells #[.int .i64 x.tag, .int .i64 x.k0, .int .i64 x.k1, .int .i64 x.k2, .int .i64 x.k3, .int .u64 x.A, .int .u64 x.B] 47) = w1 at *
    generalize w.heap.size = z at *
    have zK : Hid (K1 z) := by show K1 z; rw [HK1.out]; exact .inr rfl
    have hKK : Hid (∀ b, K b → K1 b) := fun b h => by rw [HK1.out]; exact .inl h
    have HD := Lib.hid (bdrop_is (K := K1) (q := q) (p := p) (w := w1) (s := s) (e := e) (B := 100000000000) (cap := 4) x.kids zK.out (by show 4 ≤ 10; omega) (by show 4 ≤ 4; omega) (box_kids Hx.out) ok1.out (by decide) Ha.out)
    refine HD.out.mono ?_
    rintro o w4 ⟨rfl, ha4, hk4⟩
    go_wp2_with fail
    go_ret
    exact ⟨rfl, ha4.more hKK.out, Hk.out.trans (hk4.mono fun b _ h => hKK.out b h)⟩
set_option maxHeartbeats 1000000 in
theorem bleaf_is {l : List Bool} (hn : Leafs s e l s' e' r) (ha : BTre w K q p s e) :
    Calls Try.prog 78 #[.pointer (some ⟨q, 0, none⟩), .agg #[.int .u64 (bN l), .int .i64 l.length]] w fun o w' => o = .returned (.int .i64 r) ∧ BTre w' K q p s' e' ∧ Kept K w w' := by
  have H := fun w ha => Lib.hid (bnode_is (w := w) (K := K) (q := q) (p := p) (leafN l) hn.eq hn.snd ha)
  have Ha := Lib.hid ha
  have hl := hn.len
  have hl' : (l.length : Int) ≤ 64 := by omega
  have hw : IntKind.u64.wrap (l.length : Int) = (l.length : Int) := bwrap_u64 (by omega) (by omega)
  unfold leafN at H
  clear ha hn hl
  generalize (bN l : Int) = x at *
  generalize (l.length : Int) = n at *
  go_enter Try.func78, Try.ntmps78
  go_wp2_with fail
  refine (H _ (Ha.out.alloc _)).out.mono ?_
  rintro o w1 ⟨rfl, ha, hk⟩
  go_wp2_with fail
  go_ret
  exact ⟨rfl, ha, ((Kept.refl K w).alloc _).trans hk⟩
end
end Go.Proofs.Ytdipgcbppggdhaa
