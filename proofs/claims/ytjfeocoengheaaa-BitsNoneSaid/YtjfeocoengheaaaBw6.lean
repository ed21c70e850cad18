/- A tree of package bits that makes nodes: a fork if nothing went wrong; both kids of a fork; how high a row is; whether it is too small. -/
import Derived.Test.YtjfeocoengheaaaBw5
namespace Go.Proofs.Ytjfeocoengheaaa
set_option maxRecDepth 100000
open Go.RowKit

section
variable {K : Nat → Prop} {q p : Nat} {s s' s1 : Ar} {e e' r x y h : Int} {w : World}
theorem bdrop2 (sn : Snd s) (ha : BTre w K q p s e) :
    Calls Try.prog 63 #[.pointer (some ⟨q, 0, none⟩), .slice (some ⟨w.heap.size, 0, none⟩) 2 2] (w.alloc (.cells #[.int .i64 x, .int .i64 y] 3)) fun o w' => o = .returned (.tuple #[]) ∧ BTre w' K q p (s.drops [x, y]) e ∧ Kept K w w' := by
  have hx := heap_alloc_new w (.cells #[.int .i64 x, .int .i64 y] 3)
  refine (bdrop_is (K := fun b => K b ∨ b = w.heap.size) (cap := 2) [x, y] (.inr rfl) (by show 2 ≤ 10; omega) (Nat.le_refl 2) (fun i hi => ?_) sn (by decide) (ha.allocK _)).mono ?_
  · have hi : i < 2 := hi
    have : i = 0 ∨ i = 1 := by omega
    rcases this with rfl | rfl <;> exact cell_of_row _ _ _ _ _ _ hx
  · rintro o w' ⟨rfl, h1, h2⟩
    exact ⟨rfl, h1.more fun b h => .inl h, ((Kept.refl K w).alloc _).trans (h2.mono fun b _ h => .inl h)⟩
theorem bdrop1 (sn : s.Ok 1000000000000) (ha : BTre w K q p s e) :
    Calls Try.prog 63 #[.pointer (some ⟨q, 0, none⟩), .slice (some ⟨w.heap.size, 0, none⟩) 1 1] (w.alloc (.cells #[.int .i64 x] 3)) fun o w' => o = .returned (.tuple #[]) ∧ BTre w' K q p (s.drop x).1 e ∧ Kept K w w' := by
  have hx := heap_alloc_new w (.cells #[.int .i64 x] 3)
  refine (bdrop_is (K := fun b => K b ∨ b = w.heap.size) (cap := 1) [x] (.inr rfl) (by show 1 ≤ 10; omega) (Nat.le_refl 1) (fun i hi => ?_) sn (by decide) (ha.allocK _)).mono ?_
  · have hi : i < 1 := hi
    obtain rfl : i = 0 := by omega
    exact cell_of_row _ _ _ _ _ _ hx
  · rintro o w' ⟨rfl, h1, h2⟩
    exact ⟨rfl, h1.more fun b h => .inl h, ((Kept.refl K w).alloc _).trans (h2.mono fun b _ h => .inl h)⟩
set_option maxHeartbeats 1000000 in
theorem bpairOr_is (hp : PairOr s e x y s' e' r) (ha : BTre w K q p s e) :
    Calls Try.prog 49 #[.pointer (some ⟨q, 0, none⟩), .int .i64 x, .int .i64 y] w fun o w' => o = .returned (.int .i64 r) ∧ BTre w' K q p s' e' ∧ Kept K w w' := by
  have c1 := ha.c1
  cases hp with
  | err e0 sn =>
    have HD := Lib.hid (bdrop2 (x := x) (y := y) sn ha)
    have ge : (e == 0) = false := by simpa using e0
    clear ha sn e0
    go_enter Try.func49, Try.ntmps49
    go_wp2_with fail
    refine HD.out.mono ?_
    rintro o w1 ⟨rfl, h1, h2⟩
    go_wp2_with fail
    go_ret
    exact ⟨rfl, h1, h2⟩
  | pair e0 hp =>
    subst e0
    have HP := Lib.hid (bpair_is hp ha)
    clear ha hp
    go_enter Try.func49, Try.ntmps49
    go_wp2_with fail
    refine HP.out.mono ?_
    rintro o w1 ⟨rfl, h1, h2⟩
    go_wp2_with fail
    go_ret
    exact ⟨rfl, h1, h2⟩
set_option maxHeartbeats 4000000 in
theorem bopen_is {k0 k1 : Int} (ho : Open s h s' k0 k1) (ha : BTre w K q p s e) :
    Calls Try.prog 66 #[.pointer (some ⟨q, 0, none⟩), .int .i64 h] w fun o w' => o = .returned (.tuple #[.int .i64 k0, .int .i64 k1]) ∧ BTre w' K q p s' e ∧ Kept K w w' := by
  obtain ⟨⟨m, o, v⟩, sn, rfl⟩ := ho
  have c0 := ha.c0
  have ok1 := ok_keep sn k0
  have ok2 := ok_keep ok1 k1
  have H := Lib.hid (row_fork v ha.ars sn.fit)
  have HA := fun w K (ha : BTre w K q p s e) => Lib.hid (bkeep_is k0 sn.fit ha)
  have HB := fun w K (ha : BTre w K q p (s.keep k0).1 e) => Lib.hid (bkeep_is k1 (ok1.fit (by decide)) ha)
  have HD := fun w K (ha : BTre w K q p ((s.keep k0).1.keep k1).1 e) => Lib.hid (bdrop1 (x := h) (ok2.mono (by decide)) ha)
  have Ha := Lib.hid ha
  clear ha v sn ok1 ok2
  generalize (((s.keep k0).1.keep k1).1.drop h).1 = s3 at *
  generalize ((s.keep k0).1.keep k1).1 = s2 at *
  generalize (s.keep k0).1 = s1 at *
  go_enter Try.func66, Try.ntmps66
  go_wp2_with fail
  refine H.out.mono ?_
  clear H
  rintro e w1 ⟨rfl, ha, hk⟩
  go_wp2_with fail
  have hx := heap_alloc_new w1 (.cells #[.int .i64 2, .int .i64 k0, .int .i64 k1, .int .i64 0, .int .i64 0, .int .u64 m, .int .u64 o] 44)
  have hb := hk.alloc hk.size (.cells #[.int .i64 2, .int .i64 k0, .int .i64 k1, .int .i64 0, .int .i64 0, .int .u64 m, .int .u64 o] 44)
  have hs := hk.size
  generalize w1.alloc (.cells #[.int .i64 2, .int .i64 k0, .int .i64 k1, .int .i64 0, .int .i64 0, .int .u64 m, .int .u64 o] 44) = w2 at *
  have hz := lt_heap hx
  generalize w1.heap.size = z at *
  obtain ⟨K2, hK2⟩ : ∃ K2 : Nat → Prop, K2 = fun b => K b ∨ b = z := ⟨_, rfl⟩
  have hKK : Hid (∀ b, K b → K2 b) := fun b h => by rw [hK2]; exact .inl h
  have zK : Hid (K2 z) := by show K2 z; rw [hK2]; exact .inr rfl
  have Hx := Lib.hid hx
  have Hz := Lib.hid hz
  have T := Lib.hid (Ha.out.newK (K' := K2) hb fun b h => by
    rw [hK2] at h
    rcases h with h | rfl
    · exact ⟨Nat.lt_of_lt_of_le (Ha.out.ars.lt b (.inl h)) hb.size, .inl h⟩
    · exact ⟨hz, .inr hs⟩)
  have Hk := Lib.hid (Kept.of_below hb K)
  clear hx hb hk ha Ha c0 hK2 hs hz
  have y1 : w2.cell? ⟨z, 1, none⟩ = some (.int .i64 k0) := cell_of_row _ _ _ _ _ _ Hx.out
  have y2 : w2.cell? ⟨z, 2, none⟩ = some (.int .i64 k1) := cell_of_row _ _ _ _ _ _ Hx.out
  go_cut [8, 9] (fun a b W => a = .int .i64 k0 ∧ b = .int .i64 k1 ∧ BTre W K2 q p s2 e ∧ Kept K w W)
  case first =>
    first | go_region_with (first | (go_at_call_of 55 (Value.int .i64 k0); refine (HA _ _ T.out.drew).out.mono ?_; rintro e w3 ⟨rfl, ha3, hk3⟩; have T3 := Lib.hid ha3; have y3 : w3.cell? ⟨z, 2, none⟩ = some (.int .i64 k1) := (World.cell?_of_block (hk3.block _ Hz.out zK.out)).trans y2; have Hk3 := Lib.hid (Hk.out.drew.trans (hk3.mono fun b _ h => hKK.out b h)); clear ha3 hk3) | (go_at_call_of 55 (Value.int .i64 k1); refine (HB _ _ T3.out).out.mono ?_; rintro e w4 ⟨rfl, ha4, hk4⟩; have T4 := Lib.hid ha4; have Hk4 := Lib.hid (Hk3.out.trans (hk4.mono fun b _ h => hKK.out b h)); clear ha4 hk4)) | fail
    all_goals
      go_wp2_with fail
      go_meet
      case rel => exact ⟨rfl, rfl, T4.out, Hk4.out⟩
  case rest =>
    obtain ⟨rfl, rfl, t4, k4⟩ := hcut
    have K4 := Lib.hid k4
    have H := Lib.hid (HD _ _ t4)
    clear t4 k4
    go_wp2_with fail
    refine H.out.mono ?_
    rintro e w5 ⟨rfl, ha5, hk5⟩
    go_wp2_with fail
    go_ret2
    exact ⟨rfl, ha5.more hKK.out, K4.out.trans (hk5.mono fun b _ h => hKK.out b h)⟩
end
end Go.Proofs.Ytjfeocoengheaaa
