/- Both kids of a join that is handed over. -/
import Derived.Test.YtcdmebjggdhhdaaL4
namespace Go.Proofs.Ytcdmebjggdhhdaa
open Go.RowKit

section
variable {K : Nat → Prop} {q p : Nat} {s s' s1 s2 s3 : Ar} {B : Int} {L : List Int} {e : Int} {w : World}
set_option maxHeartbeats 4000000 in
theorem topen_is {e0 e1 e2 k0 k1 A Bb : Int} (h : Int) (hg : s.get h = (⟨5, k0, k1, 0, 0, A, Bb⟩, true)) (hc : 0 < s.count h) (h0 : s.keep k0 = (s1, e0)) (h1 : s1.keep k1 = (s2, e1)) (h2 : s2.drop h = (s3, e2)) (f0 : s.Fit) (f1 : s1.Fit) (f2 : s2.Fit) (ha : Tre w K q p s e) :
    Calls Try.prog 46 #[.pointer (some ⟨q, 0, none⟩), .int .i64 h] w fun r w' => r = .returned (.tuple #[.int .i64 k0, .int .i64 k1]) ∧ Tre w' K q p s3 e ∧ Kept K w w' := by
  obtain ⟨K1, hK1⟩ : ∃ K1 : Nat → Prop, K1 = fun b => K b ∨ w.heap.size ≤ b := ⟨_, rfl⟩
  have HK1 := Lib.hid hK1
  have c0 := ha.c0
  have H := Lib.hid (lnode_is h hg rfl rfl (fun _ => ⟨hc, .inr rfl⟩) ha.ars f0)
  have HA := fun w K (ha : Tre w K q p s e) => Lib.hid (tkeep_is k0 h0 f0 ha)
  have HB := fun w K (ha : Tre w K q p s1 e) => Lib.hid (tkeep_is k1 h1 f1 ha)
  have HD := fun w K (ha : Ars w K p s2) => Lib.hid (drop_is h h2 ha f2)
  have Ha := Lib.hid ha
  clear ha hg hc h0 h1 h2 f0 f1 f2 hK1
  go_enter Try.func46, Try.ntmps46
  go_wp2_with fail
  refine H.out.mono ?_
  clear H
  rintro e w1 ⟨rfl, ha, hk⟩
  go_wp2_with fail
  have hx := heap_alloc_new w1 (.cells #[.int .i64 5, .int .i64 k0, .int .i64 k1, .int .i64 0, .int .i64 0, .int .u64 A, .int .u64 Bb] 64)
  have hb := hk.alloc hk.size (.cells #[.int .i64 5, .int .i64 k0, .int .i64 k1, .int .i64 0, .int .i64 0, .int .u64 A, .int .u64 Bb] 64)
  have hs := hk.size
  generalize w1.alloc (.cells #[.int .i64 5, .int .i64 k0, .int .i64 k1, .int .i64 0, .int .i64 0, .int .u64 A, .int .u64 Bb] 64) = w2 at *
  have hz := lt_heap hx
  generalize w1.heap.size = z at *
  obtain ⟨K2, hK2⟩ : ∃ K2 : Nat → Prop, K2 = fun b => K b ∨ b = z := ⟨_, rfl⟩
  have hKK : Hid (∀ b, K b → K2 b) := fun b h => by rw [hK2]; exact .inl h
  have zK : Hid (K2 z) := by show K2 z; rw [hK2]; exact .inr rfl
  have Hx := Lib.hid hx
  have Hz := Lib.hid hz
  have T := Lib.hid (Ha.out.newK (K' := K2) hb fun b h => by
    rw [hK2] at h
    rcases h with h | rfl
    · exact ⟨Nat.lt_of_lt_of_le (Ha.out.ars.lt b (.inl h)) hb.size, .inl h⟩
    · exact ⟨hz, .inr hs⟩)
  have Hk := Lib.hid (Kept.of_below hb K)
  clear hx hb hk ha Ha c0 HK1 hK2 hs hz
  have y1 : w2.cell? ⟨z, 1, none⟩ = some (.int .i64 k0) := cell_of_row _ _ _ _ _ _ Hx.out
  have y2 : w2.cell? ⟨z, 2, none⟩ = some (.int .i64 k1) := cell_of_row _ _ _ _ _ _ Hx.out
  first | go_region_with (first | (go_at_call_of 37 (Value.int .i64 k0); refine (HA _ _ T.out.drew).out.mono ?_; rintro e w3 ⟨rfl, ha3, hk3⟩; have T3 := Lib.hid ha3; have y3 : w3.cell? ⟨z, 2, none⟩ = some (.int .i64 k1) := (World.cell?_of_block (hk3.block _ Hz.out zK.out)).trans y2; have Hk3 := Lib.hid (Hk.out.drew.trans (hk3.mono fun b _ h => hKK.out b h)); clear ha3 hk3) | (go_at_call_of 37 (Value.int .i64 k1); refine (HB _ _ T3.out).out.mono ?_; rintro e w4 ⟨rfl, ha4, hk4⟩; have T4 := Lib.hid ha4; have Hk4 := Lib.hid (Hk3.out.trans (hk4.mono fun b _ h => hKK.out b h)); clear ha4 hk4)) | fail
  all_goals
    have c0 := T4.out.c0
    have H := Lib.hid (HD _ _ T4.out.ars)
    go_wp2_with fail
    refine H.out.mono ?_
    rintro e w5 ⟨rfl, ha5, hk5⟩
    go_wp2_with fail
    go_ret2
    exact ⟨rfl, (T4.out.arena ha5 hk5).more hKK.out, Hk4.out.trans (hk5.mono fun b _ h => .inl (hKK.out b h))⟩
end
end Go.Proofs.Ytcdmebjggdhhdaa
