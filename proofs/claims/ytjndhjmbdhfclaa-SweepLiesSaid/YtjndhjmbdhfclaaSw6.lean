/- Package sweep: what nobody reaches. -/
import Derived.Test.YtjndhjmbdhfclaaSw5
namespace Go.Proofs.Ytjndhjmbdhfclaa
set_option maxRecDepth 100000
open Go.RowKit

section
variable {K : Nat → Prop} {p : Nat} {s : Ar} {w : World}
set_option maxHeartbeats 4000000 in
theorem leaks_is {v : Value} {held : List Int} (ha : Ars w K p s) (hf : s.Fit) (hn : s.n ≤ 100000) (hv : Ints w v held) (hl : held.length ≤ 100000) :
    Calls Try.prog 35 #[.pointer (some ⟨p, 0, none⟩), v] w fun e w' => ∃ (v' : Value) (ys : List Int) (Ko : Nat → Prop), e = .returned v' ∧ Lst w' w.heap.size Ko v' ((liveTo s s.n).filter fun h => !ys.contains h) ∧ (∀ b, Ko b → w.heap.size ≤ b ∧ b < w'.heap.size) ∧ (∀ x, x ∈ ys ↔ Rch s (held ++ waitTo s s.n) x) ∧ Below w.heap.size w w' := by
  have Ha := Lib.hid ha
  have Hf := Lib.hid hf
  have Hv := Lib.hid hv
  have H1 := Lib.hid (waiting_is ha hf)
  obtain ⟨av, cv, hev⟩ := hv.slice
  have Hwl := Lib.hid (waitTo_len s s.n)
  have Hll := Lib.hid (liveTo_len s s.n)
  have Hn := Lib.hid hn
  have Hl := Lib.hid hl
  subst hev
  clear ha hf hv hn
  go_enter Try.func35, Try.ntmps35
  go_wp2_with fail
  refine H1.out.mono ?_
  clear H1
  rintro e w1 ⟨v1, K1, rfl, hl1, hk1, hb1⟩
  obtain ⟨a1, c1, rfl⟩ := hl1.slice
  have hbA : Below w.heap.size w (w1.alloc (.cells #[.slice av held.length cv, .slice a1 (waitTo s s.n).length c1] 33)) := hb1.alloc hb1.size _
  have hx0 : (w1.alloc (.cells #[.slice av held.length cv, .slice a1 (waitTo s s.n).length c1] 33)).cell? ⟨w1.heap.size, 0, none⟩ = some (.slice av held.length cv) := cell_new rfl rfl
  have hx1 : (w1.alloc (.cells #[.slice av held.length cv, .slice a1 (waitTo s s.n).length c1] 33)).cell? ⟨w1.heap.size, 1, none⟩ = some (.slice a1 (waitTo s s.n).length c1) := cell_new rfl rfl
  have H2 := Lib.hid (concat_two hx0 hx1 (by simp) (Hv.out.below hbA) (hl1.ints.below ((Below.refl _ _).alloc (Nat.le_refl _) _)) (by omega) (by have := Hwl.out; have := Hn.out; omega))
  have HbA := Lib.hid hbA
  clear hl1 hk1 hb1 hbA hx0 hx1
  go_wp2_with fail
  refine H2.out.mono ?_
  clear H2
  rintro e w3 ⟨v3, K3, rfl, hl3, hk3, hb3⟩
  have hB3 := HbA.out.trans (hb3.mono HbA.out.size)
  obtain ⟨a3, c3, e3⟩ := hl3.slice
  have H4 := Lib.hid (reach_is (Ha.out.below hB3) Hf.out hl3.ints (by rw [List.length_append]; have := Hwl.out; have := Hn.out; omega))
  have HB3 := Lib.hid hB3
  clear hl3 hk3 hb3 hB3 HbA e3
  go_wp2_with fail
  refine H4.out.mono ?_
  clear H4
  rintro e w4 ⟨v4, ys, K4, rfl, hl4, hk4, has4, hy4, hb4⟩
  have hB4 := HB3.out.trans (hb4.mono HB3.out.size)
  have hlt4 : ys.length ≤ 100000 := by
    refine Nat.le_trans (nodup_len s.n ys has4.nodup fun x hx => ?_) Hn.out
    have := count_pos ((hy4 x).1 hx).live
    exact ⟨this.1, this.2.1⟩
  obtain ⟨a4, c4, rfl⟩ := hl4.slice
  have HB4 := Lib.hid hB4
  have Hl4 := Lib.hid hl4
  have Hk4 := Lib.hid hk4
  have Hy4 := Lib.hid hy4
  have Hlt4 := Lib.hid hlt4
  clear hl4 hk4 has4 hy4 hb4 hB4 hlt4 HB3
  have hB5 : Below w.heap.size w (w4.alloc (.cells #[.slice a4 ys.length c4] 33)) := HB4.out.alloc HB4.out.size _
  have hc5 : (w4.alloc (.cells #[.slice a4 ys.length c4] 33)).cell? ⟨w4.heap.size, 0, none⟩ = some (.slice a4 ys.length c4) := cell_new rfl rfl
  have hl5 := Hl4.out.of_below ((Below.refl _ _).alloc (Nat.le_refl _) (.cells #[.slice a4 ys.length c4] 33))
  have H6 := Lib.hid (live_is (Ha.out.below hB5) Hf.out)
  have HB5 := Lib.hid hB5
  have Hc5 := Lib.hid hc5
  have Hl5 := Lib.hid hl5
  have Hs5 := Lib.hid (show (w4.alloc (.cells #[.slice a4 ys.length c4] 33)).heap.size = w4.heap.size + 1 by simp)
  clear hB5 hc5 hl5
  go_wp2_with fail
  refine H6.out.mono ?_
  clear H6
  rintro e w6 ⟨v6, K6, rfl, hl6, hk6, hb6⟩
  have hs5 := Hs5.out
  have H7 := Lib.hid (del_told (rb := w4.heap.size) ((hb6.cell (p := ⟨w4.heap.size, 0, none⟩) (by show w4.heap.size < _; omega)).trans Hc5.out) (fun e => by have := (hk6 _ e).1; omega) (Hl5.out.of_below hb6) (fun b hb e => by have := (hk6 _ e).1; have := (Hk4.out b hb).2; omega) hl6 (by have := Hlt4.out; omega) (by have := Hll.out; have := Hn.out; omega))
  have HB6 := Lib.hid (HB5.out.trans (hb6.mono HB5.out.size))
  have Hk6 := Lib.hid hk6
  clear hl6 hk6 hb6 hs5
  go_wp2_with fail
  refine H7.out.mono ?_
  clear H7
  rintro e w7 ⟨v7, rfl, hl7, ho7⟩
  go_wp2_with fail
  go_ret
  have hle : w.heap.size ≤ (w4.alloc (.cells #[.slice a4 ys.length c4] 33)).heap.size := HB5.out.size
  refine ⟨_, ys, K6, rfl, ⟨?_, hl7.2⟩, fun b hb => ⟨Nat.le_trans hle (Hk6.out b hb).1, Nat.lt_of_lt_of_le (Hk6.out b hb).2 ho7.size⟩, Hy4.out, HB6.out.trans (ho7.below (fun b hb => Nat.le_trans hle (Hk6.out b hb).1) HB6.out.size)⟩
  obtain ⟨q1, q2⟩ := hl7.1
  refine ⟨q1, ?_⟩
  rcases q2 with q2 | ⟨g, cap, cur, e, hg, r⟩
  · exact .inl q2
  · exact .inr ⟨g, cap, cur, e, Nat.le_trans hle hg, r⟩
end
end Go.Proofs.Ytjndhjmbdhfclaa
