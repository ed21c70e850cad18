/- Package wave's small functions: a symbol's bit, a row's node, its kid, how many of the first bits are alike. -/
import Derived.Test.YtdipgcbppggdhaaGpK
namespace Go.Proofs.Ytdipgcbppggdhaa
set_option maxRecDepth 100000
open Go.RowKit
theorem and_one : ∀ y : Fin 257, bits BinOp.and IntKind.i64 ((y.val : Nat) : Int) 1 = ((y.val % 2 : Nat) : Int) := by decide +kernel
theorem and_wb {n x : Nat} (hx : x < 257) : (bits BinOp.and IntKind.i64 ((x / 2 ^ n : Nat) : Int) 1 == 1) = wb n x := by
  have h1 : x / 2 ^ n < 257 := Nat.lt_of_le_of_lt (Nat.div_le_self _ _) hx
  have := and_one ⟨x / 2 ^ n, h1⟩
  have e : bits BinOp.and IntKind.i64 ((x / 2 ^ n : Nat) : Int) 1 = ((x / 2 ^ n % 2 : Nat) : Int) := this
  rw [e]
  unfold wb
  generalize x / 2 ^ n % 2 = m
  by_cases c : m = 1
  · subst c; rfl
  · have h1 : (((m : Nat) : Int) == 1) = false := beq_eq_false_iff_ne.2 (by omega)
    have h2 : (m == 1) = false := beq_eq_false_iff_ne.2 c
    rw [h1, h2]
set_option maxHeartbeats 1000000 in
theorem bit_is (n x : Nat) (hn : n ≤ 8) (hx : x < 257) (w : World) : Calls Try.prog 30 #[.int .i64 x, .int .i64 (8 - n : Nat)] w fun e w' => e = .returned (.bool (wb n x)) ∧ w = w' := by
  have hv := Lib.hid (and_wb (n := n) hx)
  have he := Lib.hid (show ((x : Int) / 2 ^ n) = ((x / 2 ^ n : Nat) : Int) by simp)
  have h1 : (x : Int) < 257 := by omega
  obtain ⟨v, hvl⟩ : ∃ v, v = 8 - n := ⟨_, rfl⟩
  have hv2 : (v : Int) ≤ 8 := by omega
  have hv3 : wrap64 (8 - (v : Int)) = (n : Int) := by rw [show (8 : Int) - (v : Int) = (n : Int) by omega]; exact IntWalk.wrap64_in _ (by omega)
  have hv4 : (8 : Int) - (v : Int) = (n : Int) := by omega
  rw [← hvl]
  have hnI : (n : Int) ≤ 8 := by omega
  clear hvl hn hx
  go_enter Try.func30, Try.ntmps30
  go_wp2_with fail
  go_ret
  exact ⟨by show Ending.returned (.bool (bits BinOp.and IntKind.i64 ((x : Int) / 2 ^ n) 1 == 1)) = _; rw [he.out, hv.out], rfl⟩
section
variable {K : Nat → Prop} {p : Nat} {s : Ar} {w : World}
set_option maxHeartbeats 8000000 in
theorem wrow_is {x : Nd} {g : Bool} {c : Int} (i : Int) (hr : s.get i = (x, g)) (hc : s.count i = c) (hp : g = true → 0 < c) (ha : Ars w K p s) (hf : s.Fit) :
    Calls Try.prog 29 #[.pointer (some ⟨p, 0, none⟩), .int .i64 i] w fun r w' => (∃ b : Bool, r = .returned (.tuple #[.agg #[.int .i64 x.tag, .int .i64 x.k0, .int .i64 x.k1, .int .i64 x.k2, .int .i64 x.k3, .int .u64 x.A, .int .u64 x.B], .bool b])) ∧ Ars w' K p s ∧ Below w.heap.size w w' := by
  have Hc := Lib.hid hc
  have Hf := Lib.hid hf
  have H := fun o => Lib.hid (get_is i hr (ha.allocK o) hf)
  have hK : ∀ b, K b → b < w.heap.size := ha.lt
  clear hr hc hf ha
  go_enter Try.func29, Try.ntmps29
  go_wp2_with fail
  refine (H _).out.mono ?_
  clear H
  rintro e w1 ⟨rfl, ha, hk⟩
  go_wp2_with fail
  have hr : w1.heap[w.heap.size]? = some (.cells #[.int .i64 0, .int .i64 0, .int .i64 0, .int .i64 0, .int .i64 0, .int .u64 0, .int .u64 0] 47 (0, 0)) := by
    rw [hk.block _ (by simp)]; exact heap_alloc_new _ _
  have hq := lt_heap hr
  have Hk := Lib.hid (((Below.refl _ w).alloc (Nat.le_refl _) _).trans ((hk.mono (by simp)).alloc (by omega) (.cells #[.int .i64 x.tag, .int .i64 x.k0, .int .i64 x.k1, .int .i64 x.k2, .int .i64 x.k3, .int .u64 x.A, .int .u64 x.B] 47)))
  replace hr := (Below.heap_alloc w1 (.cells #[.int .i64 x.tag, .int .i64 x.k0, .int .i64 x.k1, .int .i64 x.k2, .int .i64 x.k3, .int .u64 x.A, .int .u64 x.B] 47) _ hq).trans hr
  have hx := heap_alloc_new w1 (.cells #[.int .i64 x.tag, .int .i64 x.k0, .int .i64 x.k1, .int .i64 x.k2, .int .i64 x.k3, .int .u64 x.A, .int .u64 x.B] 47)
  replace ha := ha.alloc (.cells #[.int .i64 x.tag, .int .i64 x.k0, .int .i64 x.k1, .int .i64 x.k2, .int .i64 x.k3, .int .u64 x.A, .int .u64 x.B] 47)
  clear hk
  generalize w1.alloc (.cells #[.int .i64 x.tag, .int .i64 x.k0, .int .i64 x.k1, .int .i64 x.k2, .int .i64 x.k3, .int .u64 x.A, .int .u64 x.B] 47) = w2 at *
  generalize w1.heap.size = q at *
  have x0 : w2.cell? ⟨q, 0, none⟩ = some (.int .i64 x.tag) := cell_of_row _ _ _ _ _ _ hx
  have x1 : w2.cell? ⟨q, 1, none⟩ = some (.int .i64 x.k0) := cell_of_row _ _ _ _ _ _ hx
  have x2 : w2.cell? ⟨q, 2, none⟩ = some (.int .i64 x.k1) := cell_of_row _ _ _ _ _ _ hx
  have x3 : w2.cell? ⟨q, 3, none⟩ = some (.int .i64 x.k2) := cell_of_row _ _ _ _ _ _ hx
  have x4 : w2.cell? ⟨q, 4, none⟩ = some (.int .i64 x.k3) := cell_of_row _ _ _ _ _ _ hx
  have x5 : w2.cell? ⟨q, 5, none⟩ = some (.int .u64 x.A) := cell_of_row _ _ _ _ _ _ hx
  have x6 : w2.cell? ⟨q, 6, none⟩ = some (.int .u64 x.B) := cell_of_row _ _ _ _ _ _ hx
  have r0 : w2.cell? ⟨w.heap.size, 0, none⟩ = some (.int .i64 0) := cell_of_row _ _ _ _ _ _ hr
  have r1 : w2.cell? ⟨w.heap.size, 1, none⟩ = some (.int .i64 0) := cell_of_row _ _ _ _ _ _ hr
  have r2 : w2.cell? ⟨w.heap.size, 2, none⟩ = some (.int .i64 0) := cell_of_row _ _ _ _ _ _ hr
  have r3 : w2.cell? ⟨w.heap.size, 3, none⟩ = some (.int .i64 0) := cell_of_row _ _ _ _ _ _ hr
  have r4 : w2.cell? ⟨w.heap.size, 4, none⟩ = some (.int .i64 0) := cell_of_row _ _ _ _ _ _ hr
  have r5 : w2.cell? ⟨w.heap.size, 5, none⟩ = some (.int .u64 0) := cell_of_row _ _ _ _ _ _ hr
  have r6 : w2.cell? ⟨w.heap.size, 6, none⟩ = some (.int .u64 0) := cell_of_row _ _ _ _ _ _ hr
  have rf : ∀ j, w2.frozen? ⟨w.heap.size, j, none⟩ = false := fun j => frozen_of_row _ _ _ _ _ hr
  have Ha := Lib.hid ha
  clear ha hx hr
  generalize hz : w.heap.size = z at *
  have H1 := Lib.hid (count_is i Hc.out Ha.out Hf.out)
  have H2 := Lib.hid (count_is i Hc.out Ha.out.drew Hf.out)
  have hend : Ars w2 (fun b => K b ∨ b = z) p s := Ha.out
  cases g
  · go_region
    all_goals go_wp2_with fail
    all_goals exact bodyPost_ret (v := .tuple #[.agg #[.int .i64 x.tag, .int .i64 x.k0, .int .i64 x.k1, .int .i64 x.k2, .int .i64 x.k3, .int .u64 x.A, .int .u64 x.B], .bool false]) (by simp [results, Try.results29, go_sem, r0, r1, r2, r3, r4, r5, r6]) rfl ⟨⟨_, rfl⟩, brow_ars Ha.out .., by rw [hz]; exact brow_below Hk.out ..⟩
  · have hc := hp rfl
    clear hp
    rcases Classical.em (x.tag = 3) with t | t
    · rw [t] at x0
      have T := Lib.hid t
      clear t
      first | go_region_with (go_at_call 37; first | refine H1.out.mono ?_ | refine H2.out.mono ?_; rintro e w' ⟨rfl, rfl⟩) | fail
      all_goals go_wp2_with fail
      all_goals exact bodyPost_ret (v := .tuple #[.agg #[.int .i64 3, .int .i64 x.k0, .int .i64 x.k1, .int .i64 x.k2, .int .i64 x.k3, .int .u64 x.A, .int .u64 x.B], .bool true]) (by simp [results, Try.results29, go_sem, r0, r1, r2, r3, r4, r5, r6]) rfl ⟨⟨_, by rw [T.out]⟩, brow_ars Ha.out .., by rw [hz]; exact brow_below Hk.out ..⟩
    · have n1 : (x.tag == 3) = false := by simpa using t
      clear t
      first | go_region_with (go_at_call 37; first | refine H1.out.mono ?_ | refine H2.out.mono ?_; rintro e w' ⟨rfl, rfl⟩) | fail
      all_goals go_wp2_with fail
      all_goals exact bodyPost_ret (v := .tuple #[.agg #[.int .i64 x.tag, .int .i64 x.k0, .int .i64 x.k1, .int .i64 x.k2, .int .i64 x.k3, .int .u64 x.A, .int .u64 x.B], .bool false]) (by simp [results, Try.results29, go_sem, r0, r1, r2, r3, r4, r5, r6]) rfl ⟨⟨_, rfl⟩, brow_ars Ha.out .., by rw [hz]; exact brow_below Hk.out ..⟩
end
set_option maxHeartbeats 1000000 in
theorem kid_is (t k0 k1 k2 k3 a b : Int) (one : Bool) (w : World) : Calls Try.prog 32 #[.agg #[.int .i64 t, .int .i64 k0, .int .i64 k1, .int .i64 k2, .int .i64 k3, .int .u64 a, .int .u64 b], .bool one] w fun e w' => e = .returned (.int .i64 (if one then k2 else k1)) ∧ Below w.heap.size w w' := by
  cases one
  · go_enter Try.func32, Try.ntmps32
    go_wp2_with fail
    go_ret
    exact ⟨rfl, (Below.refl _ _).alloc (Nat.le_refl _) _⟩
  · go_enter Try.func32, Try.ntmps32
    go_wp2_with fail
    go_ret
    exact ⟨rfl, (Below.refl _ _).alloc (Nat.le_refl _) _⟩
section
variable {K : Nat → Prop} {p : Nat} {s : Ar} {L : List Int} {w : World} {xs : List Bool} {h : Int}
set_option maxHeartbeats 8000000 in
theorem alike_in {i : Nat} (one : Bool) (g : Gd s L) (sn : Snd s) (r : FRow s L h xs) (hx : xs.length ≤ 1000000) (hi : i ≤ xs.length) (ha : Ars w K p s) :
    Calls Try.prog 31 #[.pointer (some ⟨p, 0, none⟩), .int .i64 h, .int .i64 (i : Int), .bool one] w fun e w' => e = .returned (.int .i64 ((xs.take i).count one : Nat)) ∧ Below w.heap.size w w' := by
  have HL := flen_row g sn r ha
  have A0 := Lib.hid ha
  have HR := fun W (ha : Ars W K p s) => Lib.hid (frank_row (i := i) g sn r ha hi)
  have hcl : (xs.take i).count true ≤ i := by
    have := List.count_le_length (a := true) (l := xs.take i)
    rw [List.length_take] at this
    omega
  have hcf : (xs.take i).count false + (xs.take i).count true = i := by
    rw [count_not, List.length_take]
    omega
  obtain ⟨n, hn⟩ : ∃ n, n = xs.length := ⟨_, rfl⟩
  rw [← hn] at HL hx hi
  obtain ⟨c, hc⟩ : ∃ c, c = (xs.take i).count true := ⟨_, rfl⟩
  obtain ⟨d, hd⟩ : ∃ d, d = (xs.take i).count false := ⟨_, rfl⟩
  rw [← hc, ← hd] at hcf
  rw [← hc] at hcl
  rw [← hc] at HR
  have HC := Lib.hid hc
  have HD := Lib.hid hd
  have hcI : (c : Int) ≤ (i : Int) := by omega
  have hnI : (n : Int) ≤ 1000000 := by omega
  have hf : Hid ((((xs.take i).count false : Nat) : Int) = (i : Int) - (c : Int)) := by show (((xs.take i).count false : Nat) : Int) = (i : Int) - (c : Int); rw [← HD.out]; omega
  have ht : Hid ((((xs.take i).count true : Nat) : Int) = (c : Int)) := by show (((xs.take i).count true : Nat) : Int) = (c : Int); rw [← HC.out]
  replace HL := Lib.hid HL
  clear hn hc hd hcl hcf g sn r ha hx
  rcases Nat.eq_zero_or_pos i with h0 | h0
  · subst h0
    have hmn : min 0 (n : Int) = 0 := by omega
    obtain rfl : c = 0 := by omega
    clear hi hcI
    cases one
    · skip
      go_enter Try.func31, Try.ntmps31
      go_wp2_with fail
      refine HL.out.mono ?_
      rintro e w1 ⟨rfl, hb⟩
      have A1 := Lib.hid (A0.out.below hb)
      have B1 := Lib.hid hb
      clear hb HL A0
      go_wp2_with fail
      refine (HR _ A1.out).out.mono ?_
      rintro e w2 ⟨rfl, hb⟩
      go_wp2_with fail
      go_ret
      exact ⟨by first | rfl | (rw [hf.out]; rfl), B1.out.trans (hb.mono B1.out.size)⟩
    · skip
      rw [ht.out]
      go_enter Try.func31, Try.ntmps31
      go_wp2_with fail
      refine HL.out.mono ?_
      rintro e w1 ⟨rfl, hb⟩
      have A1 := Lib.hid (A0.out.below hb)
      have B1 := Lib.hid hb
      clear hb HL A0
      go_wp2_with fail
      refine (HR _ A1.out).out.mono ?_
      rintro e w2 ⟨rfl, hb⟩
      go_wp2_with fail
      go_ret
      exact ⟨by first | rfl | (rw [hf.out]; rfl), B1.out.trans (hb.mono B1.out.size)⟩
  · have hmx : max (i : Int) 0 = (i : Int) := by omega
    have h1 : 0 < (i : Int) := by omega
    have hin : (i : Int) ≤ (n : Int) := by omega
    have hmn : min (i : Int) (n : Int) = (i : Int) := by omega
    clear hi h0
    cases one
    · skip
      go_enter Try.func31, Try.ntmps31
      go_wp2_with fail
      refine HL.out.mono ?_
      rintro e w1 ⟨rfl, hb⟩
      have A1 := Lib.hid (A0.out.below hb)
      have B1 := Lib.hid hb
      clear hb HL A0
      go_wp2_with fail
      refine (HR _ A1.out).out.mono ?_
      rintro e w2 ⟨rfl, hb⟩
      go_wp2_with fail
      go_ret
      exact ⟨by first | rfl | (rw [hf.out]; rfl), B1.out.trans (hb.mono B1.out.size)⟩
    · skip
      rw [ht.out]
      go_enter Try.func31, Try.ntmps31
      go_wp2_with fail
      refine HL.out.mono ?_
      rintro e w1 ⟨rfl, hb⟩
      have A1 := Lib.hid (A0.out.below hb)
      have B1 := Lib.hid hb
      clear hb HL A0
      go_wp2_with fail
      refine (HR _ A1.out).out.mono ?_
      rintro e w2 ⟨rfl, hb⟩
      go_wp2_with fail
      go_ret
      exact ⟨by first | rfl | (rw [hf.out]; rfl), B1.out.trans (hb.mono B1.out.size)⟩
end
end Go.Proofs.Ytdipgcbppggdhaa
