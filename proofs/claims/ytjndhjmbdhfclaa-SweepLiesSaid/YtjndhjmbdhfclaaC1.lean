/- The cell that has the current version: what its methods answer, and what they leave. -/
import Derived.Test.YtjndhjmbdhfclaaA7
namespace Go.Proofs.Ytjndhjmbdhfclaa
set_option maxRecDepth 100000
open Go.RowKit

/-- The cell lies at block q, over the arena s at block p. -/
structure Cel (w : World) (K : Nat → Prop) (q p : Nat) (s : Ar) (r n f : Int) : Prop where
  hq : w.heap[q]? = some (.cells #[.pointer (some ⟨p, 0, none⟩), .int .i64 r, .int .i64 n, .int .i64 f] 85 (0, 0))
  kq : ¬ K q
  ars : Ars w (fun b => K b ∨ b = q) p s

section
variable {w w' : World} {K : Nat → Prop} {q p : Nat} {s s' : Ar} {r n f : Int}
theorem Cel.cell (h : Cel w K q p s r n f) (i : Nat) : w.cell? ⟨q, i, none⟩ = (#[.pointer (some ⟨p, 0, none⟩), .int .i64 r, .int .i64 n, .int .i64 f] : Array Value)[i]? := cell_of_row _ _ _ _ _ _ h.hq
theorem Cel.c0 (h : Cel w K q p s r n f) : w.cell? ⟨q, 0, none⟩ = some (.pointer (some ⟨p, 0, none⟩)) := h.cell 0
theorem Cel.c1 (h : Cel w K q p s r n f) : w.cell? ⟨q, 1, none⟩ = some (.int .i64 r) := h.cell 1
theorem Cel.c2 (h : Cel w K q p s r n f) : w.cell? ⟨q, 2, none⟩ = some (.int .i64 n) := h.cell 2
theorem Cel.c3 (h : Cel w K q p s r n f) : w.cell? ⟨q, 3, none⟩ = some (.int .i64 f) := h.cell 3
theorem Cel.fz (h : Cel w K q p s r n f) (i : Nat) : w.frozen? ⟨q, i, none⟩ = false := frozen_of_row _ _ _ _ _ h.hq
/-- The arena alone has changed. -/
theorem Cel.arena (h : Cel w K q p s r n f) (ha : Ars w' (fun b => K b ∨ b = q) p s') (hk : Kept (fun b => K b ∨ b = q) w w') : Cel w' K q p s' r n f :=
  ⟨(hk.block q (lt_heap h.hq) (.inr rfl)).trans h.hq, h.kq, ha⟩
theorem Cel.below (h : Cel w K q p s r n f) (hb : Below w.heap.size w w') : Cel w' K q p s r n f := h.arena (h.ars.below hb) (Kept.of_below hb _)
theorem Cel.alloc (h : Cel w K q p s r n f) (o : Obj) : Cel (w.alloc o) K q p s r n f := h.below ((Below.refl _ _).alloc (Nat.le_refl _) o)
/-- A new block of the caller's own is none of the cell's. -/
theorem Cel.newK {K' : Nat → Prop} (h : Cel w K q p s r n f) (hb : Below w.heap.size w w') (hk : ∀ b, K' b → b < w'.heap.size ∧ (K b ∨ w.heap.size ≤ b)) : Cel w' K' q p s r n f := by
  have hlt := lt_heap h.hq
  refine ⟨(hb.block q hlt).trans h.hq, fun e => ?_, h.ars.newK hb fun b e => ?_⟩
  · rcases (hk q e).2 with x | x
    · exact h.kq x
    · omega
  · rcases e with e | rfl
    · exact ⟨(hk b e).1, by rcases (hk b e).2 with x | x; exact .inl (.inl x); exact .inr x⟩
    · exact ⟨Nat.lt_of_lt_of_le hlt hb.size, .inl (.inr rfl)⟩
theorem Cel.allocK (h : Cel w K q p s r n f) (o : Obj) : Cel (w.alloc o) (fun b => K b ∨ b = w.heap.size) q p s r n f :=
  h.newK ((Below.refl _ _).alloc (Nat.le_refl _) _) fun b hb => by
    rcases hb with hb | rfl
    · exact ⟨by have := h.ars.lt b (.inl hb); simp; omega, .inl hb⟩
    · exact ⟨by simp, .inr (Nat.le_refl _)⟩
theorem Cel.drew (h : Cel w K q p s r n f) : Cel w.drew K q p s r n f := ⟨h.hq, h.kq, h.ars.drew⟩
theorem Cel.drewN (h : Cel w K q p s r n f) (m : Nat) : Cel (w.drewN m) K q p s r n f := ⟨h.hq, h.kq, h.ars.drewN m⟩
theorem Cel.set1 (h : Cel w K q p s r n f) (v : Int) : Cel (w.setCell ⟨q, 1, none⟩ (.int .i64 v)) K q p s v n f :=
  ⟨by rw [heap_setCell_same _ _ _ _ _ _ h.hq]; rfl, h.kq, h.ars.setCell (.inr rfl) _⟩
theorem Cel.set2 (h : Cel w K q p s r n f) (v : Int) : Cel (w.setCell ⟨q, 2, none⟩ (.int .i64 v)) K q p s r v f :=
  ⟨by rw [heap_setCell_same _ _ _ _ _ _ h.hq]; rfl, h.kq, h.ars.setCell (.inr rfl) _⟩
theorem Cel.set3 (h : Cel w K q p s r n f) (v : Int) : Cel (w.setCell ⟨q, 3, none⟩ (.int .i64 v)) K q p s r n v :=
  ⟨by rw [heap_setCell_same _ _ _ _ _ _ h.hq]; rfl, h.kq, h.ars.setCell (.inr rfl) _⟩
theorem Kept.less {K' : Nat → Prop} (h : Kept (fun b => K b ∨ K' b) w w') : Kept K w w' := h.mono fun _ _ h => .inl h

set_option maxHeartbeats 1000000 in
theorem cnew_is (ha : Ars w K p s) :
    Calls Try.prog 24 #[.pointer (some ⟨p, 0, none⟩)] w fun e w' => ∃ q, e = .returned (.pointer (some ⟨q, 0, none⟩)) ∧ Cel w' K q p s 0 0 0 ∧ Below w.heap.size w w' := by
  have Ha := Lib.hid ha
  clear ha
  go_enter Try.func24, Try.ntmps24
  go_wp2
  go_ret
  refine ⟨_, rfl, ⟨heap_alloc_new _ _, fun h => ?_, Ha.out.allocK _⟩, (Below.refl _ _).alloc (Nat.le_refl _) _⟩
  have := Ha.out.lt _ h
  omega
set_option maxHeartbeats 1000000 in
theorem cnew_nil (w : World) : Calls Try.prog 24 #[.pointer none] w fun e w' => e = .returned (.pointer none) ∧ w = w' := by
  go_enter Try.func24, Try.ntmps24
  go_wp2
  go_ret
  exact ⟨rfl, rfl⟩
set_option maxHeartbeats 1000000 in
theorem look_is (h : Cel w K q p s r n f) :
    Calls Try.prog 87 #[.pointer (some ⟨q, 0, none⟩)] w fun e w' => e = .returned (.tuple #[.int .i64 r, .int .i64 n]) ∧ Cel w' K q p s r n f ∧ Below w.heap.size w w' := by
  have c1 := h.c1
  have c2 := h.c2
  have Hh := Lib.hid h
  clear h
  go_enter Try.func87, Try.ntmps87
  go_wp2
  go_region
  go_wp2
  go_ret2
  exact ⟨rfl, Hh.out.drew, (Below.refl _ _).drew⟩
set_option maxHeartbeats 1000000 in
theorem read_zero (h : Cel w K q p s 0 n f) :
    Calls Try.prog 44 #[.pointer (some ⟨q, 0, none⟩)] w fun e w' => e = .returned (.tuple #[.int .i64 0, .int .i64 n]) ∧ Cel w' K q p s 0 n f ∧ Below w.heap.size w w' := by
  have H := Lib.hid (look_is h)
  clear h
  go_enter Try.func44, Try.ntmps44
  go_wp2_with fail
  refine H.out.mono ?_
  rintro e w' ⟨rfl, ha, hb⟩
  go_wp2_with fail
  go_ret2
  exact ⟨rfl, ha, hb⟩
set_option maxHeartbeats 1000000 in
theorem read_some {e : Int} (hr : r ≠ 0) (he : s.keep r = (s', e)) (hf : s.Fit) (h : Cel w K q p s r n f) :
    Calls Try.prog 44 #[.pointer (some ⟨q, 0, none⟩)] w fun e w' => e = .returned (.tuple #[.int .i64 r, .int .i64 n]) ∧ Cel w' K q p s' r n f ∧ Kept K w w' := by
  have H := Lib.hid (look_is h)
  have g : (r == 0) = false := by simpa using hr
  have g' : (r != 0) = true := by simpa using hr
  have He := Lib.hid he
  have Hf := Lib.hid hf
  clear h hr he hf
  go_enter Try.func44, Try.ntmps44
  go_wp2_with fail
  refine H.out.mono ?_
  rintro e w2 ⟨rfl, h, hb⟩
  have c0 := h.c0
  have H1 := Lib.hid (keep_is r He.out h.ars Hf.out)
  have Hh := Lib.hid h
  clear h
  go_wp2_with fail
  refine H1.out.mono ?_
  rintro e w3 ⟨rfl, ha, hk⟩
  go_wp2_with fail
  go_ret2
  exact ⟨rfl, Hh.out.arena ha hk, (Kept.of_below hb _).trans hk.less⟩
set_option maxHeartbeats 1000000 in
theorem publish_late {from_ root : Int} (hn : from_ ≠ n) (hf : 0 ≤ f ∧ f ≤ 1000000000000) (h : Cel w K q p s r n f) :
    Calls Try.prog 29 #[.pointer (some ⟨q, 0, none⟩), .int .i64 from_, .int .i64 root] w fun e w' => e = .returned (.bool false) ∧ Cel w' K q p s r n (f + 1) ∧ Kept K w w' := by
  have c2 := h.c2
  have c3 := h.c3
  have f3 := h.fz 3
  have g : (n == from_) = false := by simp; omega
  have g' : (n != from_) = true := by simp; omega
  obtain ⟨f1, f2⟩ := hf
  have Hh := Lib.hid h
  clear h hn
  go_enter Try.func29, Try.ntmps29
  go_wp2
  go_ret
  exact ⟨rfl, Hh.out.set3 _, (Kept.refl _ _).setCell (.inl Hh.out.kq) _⟩
set_option maxHeartbeats 1000000 in
theorem publish_now {root e : Int} (he : s.drop r = (s', e)) (hf : s.Fit) (hn : 0 ≤ n ∧ n ≤ 1000000000000) (h : Cel w K q p s r n f) :
    Calls Try.prog 29 #[.pointer (some ⟨q, 0, none⟩), .int .i64 n, .int .i64 root] w fun e w' => e = .returned (.bool true) ∧ Cel w' K q p s' root (n + 1) f ∧ Kept K w w' := by
  have c0 := h.c0
  have c1 := h.c1
  have c2 := h.c2
  have H1 := Lib.hid (drop_is r he h.drew.ars hf)
  obtain ⟨n1, n2⟩ := hn
  have Hh := Lib.hid h.drew
  clear h he hf
  go_enter Try.func29, Try.ntmps29
  go_wp2_with fail
  go_still_tail 8, (by kernel_rfl)
  change wpList _ _ _ _ _ w.drew
  go_wp2_with fail
  refine H1.out.mono ?_
  rintro e w2 ⟨rfl, ha, hk⟩
  have h2 := Hh.out.arena ha hk
  have c1 := h2.c1
  have c2 := h2.c2
  have f1 := h2.fz 1
  have f2 := h2.fz 2
  have H2 := Lib.hid h2
  clear h2 ha
  go_wp2_with fail
  go_ret
  exact ⟨rfl, (H2.out.set1 root).set2 (n + 1), ((((Kept.refl K w).drew).trans hk.less).setCell (.inl Hh.out.kq) _).setCell (.inl Hh.out.kq) _⟩

/-! The arena's methods, with the cell beside. -/
theorem cmake_is {B h e : Int} (x : Nd) (hr : s.make x = (s', h, e)) (ha : Cel w K q p s r n f) (hf : s.Ok B) (hB : B ≤ 1000000000000) :
    Calls Try.prog 14 #[.pointer (some ⟨p, 0, none⟩), .agg #[.int .i64 x.tag, .int .i64 x.k0, .int .i64 x.k1, .int .i64 x.k2, .int .i64 x.k3, .int .u64 x.A, .int .u64 x.B]] w fun e1 w' => e1 = .returned (.tuple #[.int .i64 h, .int .i64 e]) ∧ Cel w' K q p s' r n f ∧ Kept K w w' :=
  (make_is x hr ha.ars hf hB).mono fun _ _ ⟨a, b, c⟩ => ⟨a, ha.arena b c, c.less⟩
theorem ckeep_is {e : Int} (i : Int) (hr : s.keep i = (s', e)) (ha : Cel w K q p s r n f) (hf : s.Fit) :
    Calls Try.prog 17 #[.pointer (some ⟨p, 0, none⟩), .int .i64 i] w fun e1 w' => e1 = .returned (.int .i64 e) ∧ Cel w' K q p s' r n f ∧ Kept K w w' :=
  (keep_is i hr ha.ars hf).mono fun _ _ ⟨a, b, c⟩ => ⟨a, ha.arena b c, c.less⟩
theorem cdrop_is {e : Int} (i : Int) (hr : s.drop i = (s', e)) (ha : Cel w K q p s r n f) (hf : s.Fit) :
    Calls Try.prog 16 #[.pointer (some ⟨p, 0, none⟩), .int .i64 i] w fun e1 w' => e1 = .returned (.int .i64 e) ∧ Cel w' K q p s' r n f ∧ Kept K w w' :=
  (drop_is i hr ha.ars hf).mono fun _ _ ⟨a, b, c⟩ => ⟨a, ha.arena b c, c.less⟩
theorem cwork_is {B m : Int} {j : Nat} (most : Int) (hr : s.work most.toNat = (s', j)) (hn : (j : Int) = m) (ha : Cel w K q p s r n f) (hf : s.Ok B) (hB : B ≤ 1000000000000) (hm : most ≤ 9223372036854775807) :
    Calls Try.prog 20 #[.pointer (some ⟨p, 0, none⟩), .int .i64 most] w fun e1 w' => e1 = .returned (.int .i64 m) ∧ Cel w' K q p s' r n f ∧ Kept K w w' :=
  (work_is most hr hn ha.ars hf hB hm).mono fun _ _ ⟨a, b, c⟩ => ⟨a, ha.arena b c, c.less⟩
theorem cget_is {x : Nd} {b : Bool} (i : Int) (hr : s.get i = (x, b)) (ha : Cel w K q p s r n f) (hf : s.Fit) :
    Calls Try.prog 30 #[.pointer (some ⟨p, 0, none⟩), .int .i64 i] w fun e1 w' => e1 = .returned (.tuple #[.agg #[.int .i64 x.tag, .int .i64 x.k0, .int .i64 x.k1, .int .i64 x.k2, .int .i64 x.k3, .int .u64 x.A, .int .u64 x.B], .bool b]) ∧ Cel w' K q p s r n f ∧ Below w.heap.size w w' :=
  (get_is i hr ha.ars hf).mono fun _ _ ⟨a, _, c⟩ => ⟨a, ha.below c, c⟩
theorem ccount_is {c : Int} (i : Int) (hr : s.count i = c) (ha : Cel w K q p s r n f) (hf : s.Fit) :
    Calls Try.prog 21 #[.pointer (some ⟨p, 0, none⟩), .int .i64 i] w fun e1 w' => e1 = .returned (.int .i64 c) ∧ w = w' := count_is i hr ha.ars hf
theorem cused_is {c : Int} (hr : s.busy = c) (ha : Cel w K q p s r n f) :
    Calls Try.prog 19 #[.pointer (some ⟨p, 0, none⟩)] w fun e1 w' => e1 = .returned (.int .i64 c) ∧ w = w' := used_is hr ha.ars
end
end Go.Proofs.Ytjndhjmbdhfclaa
