/- A tree that makes nodes: how it lies in memory; how high a list is. -/
import Derived.Test.YtcdmebjggdhhdaaL2
namespace Go.Proofs.Ytcdmebjggdhhdaa
open Go.RowKit

/-- The tree lies at block q, over the arena s at block p; e is its error. -/
structure Tre (w : World) (K : Nat → Prop) (q p : Nat) (s : Ar) (e : Int) : Prop where
  hq : w.heap[q]? = some (.cells #[.pointer (some ⟨p, 0, none⟩), .int .i64 e] 70 (0, 0))
  kq : ¬ K q
  ars : Ars w (fun b => K b ∨ b = q) p s

section
variable {w w' : World} {K : Nat → Prop} {q p : Nat} {s s' : Ar} {e : Int}
theorem Tre.cell (h : Tre w K q p s e) (i : Nat) : w.cell? ⟨q, i, none⟩ = (#[.pointer (some ⟨p, 0, none⟩), .int .i64 e] : Array Value)[i]? := cell_of_row _ _ _ _ _ _ h.hq
theorem Tre.c0 (h : Tre w K q p s e) : w.cell? ⟨q, 0, none⟩ = some (.pointer (some ⟨p, 0, none⟩)) := h.cell 0
theorem Tre.c1 (h : Tre w K q p s e) : w.cell? ⟨q, 1, none⟩ = some (.int .i64 e) := h.cell 1
theorem Tre.fz (h : Tre w K q p s e) (i : Nat) : w.frozen? ⟨q, i, none⟩ = false := frozen_of_row _ _ _ _ _ h.hq
theorem Tre.arena (h : Tre w K q p s e) (ha : Ars w' (fun b => K b ∨ b = q) p s') (hk : Kept (fun b => K b ∨ b = q) w w') : Tre w' K q p s' e :=
  ⟨(hk.block q (lt_heap h.hq) (.inr rfl)).trans h.hq, h.kq, ha⟩
theorem Tre.below (h : Tre w K q p s e) (hb : Below w.heap.size w w') : Tre w' K q p s e := h.arena (h.ars.below hb) (Kept.of_below hb _)
theorem Tre.alloc (h : Tre w K q p s e) (o : Obj) : Tre (w.alloc o) K q p s e := h.below ((Below.refl _ _).alloc (Nat.le_refl _) o)
theorem Tre.newK {K' : Nat → Prop} (h : Tre w K q p s e) (hb : Below w.heap.size w w') (hk : ∀ b, K' b → b < w'.heap.size ∧ (K b ∨ w.heap.size ≤ b)) : Tre w' K' q p s e := by
  have hlt := lt_heap h.hq
  refine ⟨(hb.block q hlt).trans h.hq, fun e => ?_, h.ars.newK hb fun b e => ?_⟩
  · rcases (hk q e).2 with x | x
    · exact h.kq x
    · omega
  · rcases e with e | rfl
    · exact ⟨(hk b e).1, by rcases (hk b e).2 with x | x; exact .inl (.inl x); exact .inr x⟩
    · exact ⟨Nat.lt_of_lt_of_le hlt hb.size, .inl (.inr rfl)⟩
theorem Tre.more {K' : Nat → Prop} (h : Tre w K q p s e) (hk : ∀ b, K' b → K b) : Tre w K' q p s e :=
  ⟨h.hq, fun x => h.kq (hk q x), h.ars.more fun b x => x.imp (hk b) id⟩
theorem Tre.allocK (h : Tre w K q p s e) (o : Obj) : Tre (w.alloc o) (fun b => K b ∨ b = w.heap.size) q p s e :=
  h.newK ((Below.refl _ _).alloc (Nat.le_refl _) _) fun b hb => by
    rcases hb with hb | rfl
    · exact ⟨by have := h.ars.lt b (.inl hb); simp; omega, .inl hb⟩
    · exact ⟨by simp, .inr (Nat.le_refl _)⟩
theorem Tre.drew (h : Tre w K q p s e) : Tre w.drew K q p s e := ⟨h.hq, h.kq, h.ars.drew⟩
theorem Tre.drewN (h : Tre w K q p s e) (m : Nat) : Tre (w.drewN m) K q p s e := ⟨h.hq, h.kq, h.ars.drewN m⟩
theorem Tre.set1 (h : Tre w K q p s e) (v : Int) : Tre (w.setCell ⟨q, 1, none⟩ (.int .i64 v)) K q p s v :=
  ⟨by rw [heap_setCell_same _ _ _ _ _ _ h.hq]; rfl, h.kq, h.ars.setCell (.inr rfl) _⟩
theorem Kept.part {K' : Nat → Prop} (h : Kept (fun b => K b ∨ K' b) w w') : Kept K w w' := h.mono fun _ _ h => .inl h
end

theorem wrap_small {x : Int} (h : -9223372036854775808 ≤ x) (h' : x < 9223372036854775808) : IntKind.i64.wrap x = x := (IntWalk.i64_left x).trans (IntWalk.wrap64_in x ⟨h, by omega⟩)
section
variable {K : Nat → Prop} {q p : Nat} {s : Ar} {B : Int} {L : List Int} {e : Int}
set_option maxHeartbeats 1000000 in
theorem high_is (g : Good s B L) (hB : B ≤ 1000000000000) : ∀ (t : Tr) (h : Int) (w : World), Has s h t → t.high ≤ 1000 → Tre w K q p s e →
    Calls Try.prog 45 #[.pointer (some ⟨q, 0, none⟩), .int .i64 h] w fun r w' => r = .returned (.int .i64 t.high) ∧ Tre w' K q p s e ∧ Below w.heap.size w w'
  | .nil, h, w, x, _, ha => by
    have hf := g.ok.fit hB
    obtain rfl : h = 0 := x.rep
    have c0 := ha.c0
    have H := Lib.hid (node_nil ha.ars hf)
    have Ha := Lib.hid ha
    clear g x ha hf
    go_enter Try.func45, Try.ntmps45
    go_wp2_with fail
    refine H.out.mono ?_
    rintro e w1 ⟨rfl, ha, hk⟩
    go_wp2_with fail
    go_ret
    exact ⟨rfl, Ha.out.below (hk.alloc hk.size _), hk.alloc hk.size _⟩
  | .item a b, h, w, x, _, ha => by
    have hf := g.ok.fit hB
    have c0 := ha.c0
    have H := Lib.hid (node_item g hf x ha.ars)
    have Ha := Lib.hid ha
    clear g x ha hf
    go_enter Try.func45, Try.ntmps45
    go_wp2_with fail
    refine H.out.mono ?_
    rintro e w1 ⟨rfl, ha, hk⟩
    go_wp2_with fail
    go_ret
    exact ⟨rfl, Ha.out.below (hk.alloc hk.size _), hk.alloc hk.size _⟩
  | .join l r, h, w, x, hh, ha => by
    have hf := g.ok.fit hB
    have c0 := ha.c0
    obtain ⟨h1, k0, k1, e, x0, x1⟩ := x.join g
    have H := Lib.hid (node_join g hf x e ha.ars)
    have e : (Tr.join l r).high = 1 + max l.high r.high := rfl
    rw [e] at hh ⊢
    have Hl := fun w y => Lib.hid (high_is g hB l k0 w x0 (by omega) y)
    have Hr := fun w y => Lib.hid (high_is g hB r k1 w x1 (by omega) y)
    have Ha := Lib.hid ha
    clear g x ha hf x0 x1 e
    generalize l.high = a at *
    generalize r.high = b at *
    go_enter Try.func45, Try.ntmps45
    go_wp2_with fail
    refine H.out.mono ?_
    rintro e w1 ⟨rfl, ha, hk⟩
    go_wp2_with fail
    have HB := Lib.hid (hk.alloc hk.size (.cells #[.int .i64 5, .int .i64 k0, .int .i64 k1, .int .i64 0, .int .i64 0, .int .u64 (↑l.len + ↑r.len), .int .u64 0] 64))
    have hx := heap_alloc_new w1 (.cells #[.int .i64 5, .int .i64 k0, .int .i64 k1, .int .i64 0, .int .i64 0, .int .u64 (↑l.len + ↑r.len), .int .u64 0] 64)
    generalize w1.alloc (.cells #[.int .i64 5, .int .i64 k0, .int .i64 k1, .int .i64 0, .int .i64 0, .int .u64 (↑l.len + ↑r.len), .int .u64 0] 64) = w2 at *
    generalize w1.heap.size = z at *
    have y1 : w2.cell? ⟨z, 1, none⟩ = some (.int .i64 k0) := cell_of_row _ _ _ _ _ _ hx
    have y2 : w2.cell? ⟨z, 2, none⟩ = some (.int .i64 k1) := cell_of_row _ _ _ _ _ _ hx
    have hz := Lib.hid (lt_heap hx)
    have HA := Lib.hid (Ha.out.below HB.out).drew
    clear hx ha hk H
    have a1 : a ≤ 999 := by omega
    have b1 : b ≤ 999 := by omega
    first | go_region_with (first | (go_at_call_of 45 (Value.int .i64 k0); refine (Hl _ HA.out).out.mono ?_; rintro e w3 ⟨rfl, ha3, hk3⟩; have y3 : w3.cell? ⟨z, 2, none⟩ = some (.int .i64 k1) := (World.cell?_of_block (hk3.block _ hz.out)).trans y2; have H3 := Lib.hid ha3; have HB3 := Lib.hid (HB.out.drew.trans (hk3.mono HB.out.size)); clear ha3 hk3) | (go_at_call_of 45 (Value.int .i64 k1); refine (Hr _ H3.out).out.mono ?_; rintro e w4 ⟨rfl, ha4, hk4⟩; have H4 := Lib.hid ha4; have HB4 := Lib.hid (HB3.out.trans (hk4.mono HB3.out.size)); clear ha4 hk4)) | fail
    all_goals go_wp2_with fail
    all_goals go_ret
    all_goals refine ⟨congrArg (fun n => Ending.returned (Value.int .i64 n)) ?_, H4.out, HB4.out⟩
    all_goals rw [wrap_small (by omega) (by omega)]
    all_goals omega
end
end Go.Proofs.Ytcdmebjggdhhdaa
