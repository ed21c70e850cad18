/- A tree of package bits that makes nodes: a fork if nothing went wrong; both kids of a fork; how high a row is; whether it is too small. -/
import Derived.Test.YtdipgcbppggdhaaBw5
namespace Go.Proofs.Ytdipgcbppggdhaa
set_option maxRecDepth 100000
open Go.RowKit

section
variable {K : Nat → Prop} {q p : Nat} {s s' s1 : Ar} {e e' r x y h : Int} {w : World}
theorem bdrop2 (sn : Snd s) (ha : BTre w K q p s e) :
    Calls Try.prog 93 #[.pointer (some ⟨q, 0, none⟩), .slice (some ⟨w.heap.size, 0, none⟩) 2 2] (w.alloc (.cells #[.int .i64 x, .int .i64 y] 3)) fun o w' => o = .returned (.tuple #[]) ∧ BTre w' K q p (s.drops [x, y]) e ∧ Kept K w w' := by
  have hx := heap_alloc_new w (.cells #[.int .i64 x, .int .i64 y] 3)
  refine (bdrop_is (K := fun b => K b ∨ b = w.heap.size) (cap := 2) [x, y] (.inr rfl) (by show 2 ≤ 10; omega) (Nat.le_refl 2) (fun i hi => ?_) sn (by decide) (ha.allocK _)).mono ?_
  · have hi : i < 2 := hi
    have : i = 0 ∨ i = 1 := by omega
    rcases this with rfl | rfl <;> exact cell_of_row _ _ _ _ _ _ hx
  · rintro o w' ⟨rfl, h1, h2⟩
    exact ⟨rfl, h1.more fun b h => .inl h, ((Kept.refl K w).alloc _).trans (h2.mono fun b _ h => .inl h)⟩
theorem bdrop1 (sn : s.Ok 1000000000000) (ha : BTre w K q p s e) :
    Calls Try.prog 93 #[.pointer (some ⟨q, 0, none⟩), .slice (some ⟨w.heap.size, 0, none⟩) 1 1] (w.alloc (.cells #[.int .i64 x] 3)) fun o w' => o = .returned (.tuple #[]) ∧ BTre w' K q p (s.drop x).1 e ∧ Kept K w w' := by
  have hx := heap_alloc_new w (.cells #[.int .i64 x] 3)
  refine (bdrop_is (K := fun b => K b ∨ b = w.heap.size) (cap := 1) [x] (.inr rfl) (by show 1 ≤ 10; omega) (Nat.le_refl 1) (fun i hi => ?_) sn (by decide) (ha.allocK _)).mono ?_
  · have hi : i < 1 := hi
    obtain rfl : i = 0 := by omega
    exact cell_of_row _ _ _ _ _ _ hx
  · rintro o w' ⟨rfl, h1, h2⟩
    exact ⟨rfl, h1.more fun b h => .inl h, ((Kept.refl K w).alloc _).trans (h2.mono fun b _ h => .inl h)⟩
set_option maxHeartbeats 1000000 in
theorem bpairOr_is (hp : PairOr s e x y s' e' r) (ha : BTre w K q p s e) :
    Calls Try.prog 80 #[.pointer (some ⟨q, 0, none⟩), .int .i64 x, .int .i64 y] w fun o w' => o = .returned (.int .i64 r) ∧ BTre w' K q p s' e' ∧ Kept K w w' := by
  have c1 := ha.c1
  cases hp with
  | err e0 sn =>
    have HD := Lib.hid (bdrop2 (x := x) (y := y) sn ha)
    have ge : (e == 0) = false := by simpa using e0
    clear ha sn e0
    go_enter Try.func80, Try.ntmps80
    go_wp2_with fail
    refine HD.out.mono ?_
    rintro o w1 ⟨rfl, h1, h2⟩
    go_wp2_with fail
    go_ret
    exact ⟨rfl, h1, h2⟩
  | pair e0 hp =>
    subst e0
    have HP := Lib.hid (bpair_is hp ha)
    clear ha hp
    go_enter Try.func80, Try.ntmps80
    go_wp2_with fail
    refine HP.out.mono ?_
    rintro o w1 ⟨rfl, h1, h2⟩
    go_wp2_with fail
    go_ret
    exact ⟨rfl, h1, h2⟩
set_option maxHeartbeats 4000000 in
theorem bopen_is {k0 k1 : Int} (ho : Open s h s' k0 k1) (ha : BTre w K q p s e) :
    Calls Try.prog 96 #[.pointer (some ⟨q, 0, none⟩), .int .i64 h] w fun o w' => o = .returned (.tuple #[.int .i64 k0, .int .i64 k1]) ∧ BTre w' K q p s' e ∧ Kept K w w' := by
  obtain ⟨⟨m, o, v⟩, sn, rfl⟩ := ho
  have c0 := ha.c0
  have ok1 := ok_keep sn k0
  have ok2 := ok_keep ok1 k1
  have H := Lib.hid (row_fork v ha.ars sn.fit)
  have HA := fun w K (ha : BTre w K q p s e) => Lib.hid (bkeep_is k0 sn.fit ha)
  have HB := fun w K (ha : BTre w K q p (s.keep k0).1 e) => Lib.hid (bkeep_is k1 (ok1.fit (by decide)) ha)
  have HD := fun w K (ha : BTre w K q p ((s.keep k0).1.keep k1).1 e) => Lib.hid (bdrop1 (x := h) (ok2.mono (by decide)) ha)
  have Ha := Lib.hid ha
  clear ha v sn ok1 ok2
  generalize (((s.keep k0).1.keep k1).1.drop h).1 = s3 at *
  generalize ((s.keep k0).1.keep k1).1 = s2 at *
  generalize (s.keep k0).1 = s1 at *
  go_enter Try.func96, Try.ntmps96
  go_wp2_with fail
  refine H.out.mono ?_
  clear H
  rintro e w1 ⟨rfl, ha, hk⟩
  go_wp2_with fail
  have hx := heap_alloc_new w1 (.cells #[.int .i64 2, .int .i64 k0, .int .i64 k1, .int .i64 0, .int .i64 0, .int .u64 m, .int .u64 o] 47)
  have hb := hk.alloc hk.size (.cells #[.int .i64 2, .int .i64 k0, .int .i64 k1, .int .i64 0, .int .i64 0, .int .u64 m, .int .u64 o] 47)
  have hs := hk.size
  generalize w1.alloc (.cells #[.int .i64 2, .int .i64 k0, .int .i64 k1, .int .i64 0, .int .i64 0, .int .u64 m, .int .u64 o] 47) = w2 at *
  have hz := lt_heap hx
  generalize w1.heap.size = z at *
  obtain ⟨K2, hK2⟩ : ∃ K2 : Nat → Prop, K2 = fun b => K b ∨ b = z := ⟨_, rfl⟩
  have hKK : Hid (∀ b, K b → K2 b) := fun b h => by rw [hK2]; exact .inl h
  have zK : Hid (K2 z) := by show K2 z; rw [hK2]; exact .inr rfl
  have Hx := Lib.hid hx
  have Hz := Lib.hid hz
  have T := Lib.hid (Ha.out.newK (K' := K2) hb fun b h => by
    rw [hK2] at h
    rcases h with h | rfl
    · exact ⟨Nat.lt_of_lt_of_le (Ha.out.ars.lt b (.inl h)) hb.size, .inl h⟩
    · exact ⟨hz, .inr hs⟩)
  have Hk := Lib.hid (Kept.of_below hb K)
  clear hx hb hk ha Ha c0 hK2 hs hz
  have y1 : w2.cell? ⟨z, 1, none⟩ = some (.int .i64 k0) := cell_of_row _ _ _ _ _ _ Hx.out
  have y2 : w2.cell? ⟨z, 2, none⟩ = some (.int .i64 k1) := cell_of_row _ _ _ _ _ _ Hx.out
  go_cut [8, 9] (fun a b W => a = .int .i64 k0 ∧ b = .int .i64 k1 ∧ BTre W K2 q p s2 e ∧ Kept K w W)
  case first =>
    first | go_region_with (first | (go_at_call_of 82 (Value.int .i64 k0); refine (HA _ _ T.out.drew).out.mono ?_; rintro e w3 ⟨rfl, ha3, hk3⟩; have T3 := Lib.hid ha3; have y3 : w3.cell? ⟨z, 2, none⟩ = some (.int .i64 k1) := (World.cell?_of_block (hk3.block _ Hz.out zK.out)).trans y2; have Hk3 := Lib.hid (Hk.out.drew.trans (hk3.mono fun b _ h => hKK.out b h)); clear ha3 hk3) | (go_at_call_of 82 (Value.int .i64 k1); refine (HB _ _ T3.out).out.mono ?_; rintro e w4 ⟨rfl, ha4, hk4⟩; have T4 := Lib.hid ha4; have Hk4 := Lib.hid (Hk3.out.trans (hk4.mono fun b _ h => hKK.out b h)); clear ha4 hk4)) | fail
    all_goals
      go_wp2_with fail
      go_meet
      case rel => exact ⟨rfl, rfl, T4.out, Hk4.out⟩
  case rest =>
    obtain ⟨rfl, rfl, t4, k4⟩ := hcut
    have K4 := Lib.hid k4
    have H := Lib.hid (HD _ _ t4)
    clear t4 k4
    go_wp2_with fail
    refine H.out.mono ?_
    rintro e w5 ⟨rfl, ha5, hk5⟩
    go_wp2_with fail
    go_ret2
    exact ⟨rfl, ha5.more hKK.out, K4.out.trans (hk5.mono fun b _ h => hKK.out b h)⟩
end
end Go.Proofs.Ytdipgcbppggdhaa
namespace Go.Proofs.Ytdipgcbppggdhaa
set_option maxRecDepth 100000
open Go.RowKit

section
variable {K : Nat → Prop} {q p : Nat} {s : Ar} {e h : Int}
set_option maxHeartbeats 4000000 in
theorem bhigh_is (sn : Snd s) {d : Nat} (HH : High s h d) : ∀ w, BTre w K q p s e →
    Calls Try.prog 95 #[.pointer (some ⟨q, 0, none⟩), .int .i64 h] w fun r w' => r = .returned (.int .i64 d) ∧ BTre w' K q p s e ∧ Below w.heap.size w w' := by
  induction HH with
  | none v =>
    intro w ha
    have c0 := ha.c0
    obtain ⟨x, hx⟩ := row_none v ha.ars sn.fit
    have H := Lib.hid hx
    have Ha := Lib.hid ha
    clear ha v hx sn
    go_enter Try.func95, Try.ntmps95
    go_wp2_with fail
    refine H.out.mono ?_
    rintro e w1 ⟨rfl, ha, hk⟩
    go_wp2_with fail
    go_ret
    exact ⟨rfl, Ha.out.below (hk.alloc hk.size _), hk.alloc hk.size _⟩
  | leaf v =>
    intro w ha
    have c0 := ha.c0
    have H := Lib.hid (row_leaf v ha.ars sn.fit)
    have Ha := Lib.hid ha
    clear ha v sn
    go_enter Try.func95, Try.ntmps95
    go_wp2_with fail
    refine H.out.mono ?_
    rintro e w1 ⟨rfl, ha, hk⟩
    go_wp2_with fail
    go_ret
    exact ⟨rfl, Ha.out.below (hk.alloc hk.size _), hk.alloc hk.size _⟩
  | @fork h k0 k1 m o a b v _ _ ha1 hb1 ihl ihr =>
    intro w ha
    have c0 := ha.c0
    have H := Lib.hid (row_fork v ha.ars sn.fit)
    have Hl := fun w y => Lib.hid (ihl w y)
    have Hr := fun w y => Lib.hid (ihr w y)
    have Ha := Lib.hid ha
    clear ha v sn ihl ihr
    go_enter Try.func95, Try.ntmps95
    go_wp2_with fail
    refine H.out.mono ?_
    rintro e w1 ⟨rfl, ha, hk⟩
    go_wp2_with fail
    have HB := Lib.hid (hk.alloc hk.size (.cells #[.int .i64 2, .int .i64 k0, .int .i64 k1, .int .i64 0, .int .i64 0, .int .u64 m, .int .u64 o] 47))
    have hx := heap_alloc_new w1 (.cells #[.int .i64 2, .int .i64 k0, .int .i64 k1, .int .i64 0, .int .i64 0, .int .u64 m, .int .u64 o] 47)
    generalize w1.alloc (.cells #[.int .i64 2, .int .i64 k0, .int .i64 k1, .int .i64 0, .int .i64 0, .int .u64 m, .int .u64 o] 47) = w2 at *
    generalize w1.heap.size = z at *
    have y1 : w2.cell? ⟨z, 1, none⟩ = some (.int .i64 k0) := cell_of_row _ _ _ _ _ _ hx
    have y2 : w2.cell? ⟨z, 2, none⟩ = some (.int .i64 k1) := cell_of_row _ _ _ _ _ _ hx
    have hz := Lib.hid (lt_heap hx)
    have HA := Lib.hid (Ha.out.below HB.out).drew
    clear hx ha hk H
    first | go_region_with (first | (go_at_call_of 95 (Value.int .i64 k0); refine (Hl _ HA.out).out.mono ?_; rintro e w3 ⟨rfl, ha3, hk3⟩; have y3 : w3.cell? ⟨z, 2, none⟩ = some (.int .i64 k1) := (World.cell?_of_block (hk3.block _ hz.out)).trans y2; have H3 := Lib.hid ha3; have HB3 := Lib.hid (HB.out.drew.trans (hk3.mono HB.out.size)); clear ha3 hk3) | (go_at_call_of 95 (Value.int .i64 k1); refine (Hr _ H3.out).out.mono ?_; rintro e w4 ⟨rfl, ha4, hk4⟩; have H4 := Lib.hid ha4; have HB4 := Lib.hid (HB3.out.trans (hk4.mono HB3.out.size)); clear ha4 hk4)) | fail
    all_goals go_wp2_with fail
    all_goals go_ret
    all_goals refine ⟨congrArg (fun n => Ending.returned (Value.int .i64 n)) ?_, H4.out, HB4.out⟩
    all_goals rw [bwrap_small (by omega) (by omega)]
    all_goals omega
set_option maxHeartbeats 2000000 in
theorem bsmall_is {v : View} {w : World} (sn : Snd s) (hv : Vw s h v) (ha : BTre w K q p s e) :
    Calls Try.prog 97 #[.pointer (some ⟨q, 0, none⟩), .int .i64 h] w fun r w' => r = .returned (.bool v.small) ∧ BTre w' K q p s e ∧ Below w.heap.size w w' := by
  have c0 := ha.c0
  cases v with
  | none =>
    obtain ⟨x, hx⟩ := row_none hv ha.ars sn.fit
    have H := Lib.hid hx
    have Ha := Lib.hid ha
    clear ha hv hx sn
    show Calls _ _ _ _ fun r w' => r = .returned (.bool false) ∧ _
    go_enter Try.func97, Try.ntmps97
    go_wp2_with fail
    refine H.out.mono ?_
    rintro e w1 ⟨rfl, ha, hk⟩
    go_wp2_with fail
    go_ret
    exact ⟨rfl, Ha.out.below (hk.alloc hk.size _), hk.alloc hk.size _⟩
  | leaf l =>
    have H := Lib.hid (row_leaf hv ha.ars sn.fit)
    have Ha := Lib.hid ha
    have hsm : (View.leaf l).small = decide (l.length < 16) := rfl
    rw [hsm]
    clear ha hv sn hsm
    by_cases c : l.length < 16
    · have c' : (l.length : Int) < 16 := by omega
      rw [decide_eq_true c]
      clear c
      go_enter Try.func97, Try.ntmps97
      go_wp2_with fail
      refine H.out.mono ?_
      rintro e w1 ⟨rfl, ha, hk⟩
      go_wp2_with fail
      go_ret
      exact ⟨rfl, Ha.out.below (hk.alloc hk.size _), hk.alloc hk.size _⟩
    · have c' : 16 ≤ (l.length : Int) := by omega
      rw [decide_eq_false c]
      clear c
      go_enter Try.func97, Try.ntmps97
      go_wp2_with fail
      refine H.out.mono ?_
      rintro e w1 ⟨rfl, ha, hk⟩
      go_wp2_with fail
      go_ret
      exact ⟨by show Ending.returned (.bool (decide ((l.length : Int) < 16))) = _; rw [decide_eq_false (by omega)], Ha.out.below (hk.alloc hk.size _), hk.alloc hk.size _⟩
  | fork k0 k1 m o =>
    have H := Lib.hid (row_fork hv ha.ars sn.fit)
    have Ha := Lib.hid ha
    clear ha hv sn
    show Calls _ _ _ _ fun r w' => r = .returned (.bool false) ∧ _
    go_enter Try.func97, Try.ntmps97
    go_wp2_with fail
    refine H.out.mono ?_
    rintro e w1 ⟨rfl, ha, hk⟩
    go_wp2_with fail
    go_ret
    exact ⟨rfl, Ha.out.below (hk.alloc hk.size _), hk.alloc hk.size _⟩
end
end Go.Proofs.Ytdipgcbppggdhaa
namespace Go.Proofs.Ytdipgcbppggdhaa
set_option maxRecDepth 100000
open Go.RowKit

section
variable {K : Nat → Prop} {q p : Nat} {s s' : Ar} {e e' r x y : Int} {w : World}
set_option maxRecDepth 100000 in
set_option maxHeartbeats 8000000 in
theorem bfork_walk (hf : Fork s e x y s' e' r) (ha : BTre w K q p s e) :
    Calls Try.prog 81 #[.pointer (some ⟨q, 0, none⟩), .int .i64 x, .int .i64 y] w fun o w' => o = .returned (.int .i64 r) ∧ BTre w' K q p s' e' ∧ Kept K w w' := by
  have g1 := ha.c1
  cases hf with
  | err e0 sn =>
    have T0 := Lib.hid ha
    have K0 := Lib.hid (Kept.refl K w)
    have ge : (e == 0) = false := by simpa using e0
    have SN := Lib.hid sn
    clear e0 sn
    clear ha
    go_enter Try.func81, Try.ntmps81
    go_wp2_with fail
    refine ((bdrop2 (x := x) (y := y) SN.out T0.out)).mono ?_
    rintro o w1 ⟨rfl, t, k⟩
    have T1 := Lib.hid t
    have K1 := Lib.hid (K0.out.trans k)
    clear t k T0 K0
    go_wp2_with fail
    go_ret
    exact ⟨rfl, T1.out, K1.out⟩
  | @even P Q _ _ _ e0 sn H1 H2 b1 b2 c1 c2 hp =>
    have T0 := Lib.hid ha
    have K0 := Lib.hid (Kept.refl K w)
    subst e0
    have h_sn := Lib.hid sn
    have h_H1 := Lib.hid H1
    have h_H2 := Lib.hid H2
    have h_hp := Lib.hid hp
    clear sn H1 H2 hp
    have d1 : (P : Int) ≤ (Q : Int) + 1 := by omega
    have d2 : (Q : Int) ≤ (P : Int) + 1 := by omega
    have d3 : (P : Int) ≤ 1000 := by omega
    have d4 : (Q : Int) ≤ 1000 := by omega
    clear b1 b2 c1 c2
    clear ha
    go_enter Try.func81, Try.ntmps81
    go_wp2_with fail
    refine ((bhigh_is h_sn.out h_H1.out _ (T0.out))).mono ?_
    rintro o w1 ⟨rfl, t, k⟩
    have T1 := Lib.hid t
    have K1 := Lib.hid (K0.out.trans (Kept.of_below k K))
    clear t k T0 K0
    go_wp2_with fail
    refine ((bhigh_is h_sn.out h_H2.out _ (T1.out))).mono ?_
    rintro o w2 ⟨rfl, t, k⟩
    have T2 := Lib.hid t
    have K2 := Lib.hid (K1.out.trans (Kept.of_below k K))
    clear t k T1 K1
    go_wp2_with fail
    refine ((bpair_is h_hp.out T2.out)).mono ?_
    rintro o w3 ⟨rfl, t, k⟩
    have T3 := Lib.hid t
    have K3 := Lib.hid (K2.out.trans k)
    clear t k T2 K2
    go_wp2_with fail
    go_ret
    exact ⟨rfl, T3.out, K3.out⟩
  | @l1 P Q A B u v s1 s2 _ e2 _ z _ e0 sn H1 H2 b1 b2 c1 ho sn1 H3 H4 b3 b4 c2 hp1 hp2 =>
    have T0 := Lib.hid ha
    have K0 := Lib.hid (Kept.refl K w)
    subst e0
    have h_sn := Lib.hid sn
    have h_H1 := Lib.hid H1
    have h_H2 := Lib.hid H2
    have h_ho := Lib.hid ho
    have h_sn1 := Lib.hid sn1
    have h_H3 := Lib.hid H3
    have h_H4 := Lib.hid H4
    have h_hp1 := Lib.hid hp1
    have h_hp2 := Lib.hid hp2
    clear sn H1 H2 ho sn1 H3 H4 hp1 hp2
    have d1 : (Q : Int) + 1 < (P : Int) := by omega
    have d2 : (B : Int) ≤ (A : Int) := by omega
    have d3 : (P : Int) ≤ 1000 := by omega
    have d4 : (Q : Int) ≤ 1000 := by omega
    have d5 : (A : Int) ≤ 1000 := by omega
    have d6 : (B : Int) ≤ 1000 := by omega
    clear b1 b2 c1 b3 b4 c2
    clear ha
    go_enter Try.func81, Try.ntmps81
    go_wp2_with fail
    refine ((bhigh_is h_sn.out h_H1.out _ (T0.out))).mono ?_
    rintro o w1 ⟨rfl, t, k⟩
    have T1 := Lib.hid t
    have K1 := Lib.hid (K0.out.trans (Kept.of_below k K))
    clear t k T0 K0
    go_wp2_with fail
    refine ((bhigh_is h_sn.out h_H2.out _ (T1.out))).mono ?_
    rintro o w2 ⟨rfl, t, k⟩
    have T2 := Lib.hid t
    have K2 := Lib.hid (K1.out.trans (Kept.of_below k K))
    clear t k T1 K1
    go_wp2_with fail
    refine ((bopen_is h_ho.out T2.out)).mono ?_
    rintro o w3 ⟨rfl, t, k⟩
    have T3 := Lib.hid t
    have K3 := Lib.hid (K2.out.trans k)
    clear t k T2 K2
    go_wp2_with fail
    refine ((bhigh_is h_sn1.out h_H3.out _ (T3.out))).mono ?_
    rintro o w4 ⟨rfl, t, k⟩
    have T4 := Lib.hid t
    have K4 := Lib.hid (K3.out.trans (Kept.of_below k K))
    clear t k T3 K3
    go_wp2_with fail
    refine ((bhigh_is h_sn1.out h_H4.out _ (T4.out))).mono ?_
    rintro o w5 ⟨rfl, t, k⟩
    have T5 := Lib.hid t
    have K5 := Lib.hid (K4.out.trans (Kept.of_below k K))
    clear t k T4 K4
    go_wp2_with fail
    refine ((bpair_is h_hp1.out T5.out)).mono ?_
    rintro o w6 ⟨rfl, t, k⟩
    have T6 := Lib.hid t
    have K6 := Lib.hid (K5.out.trans k)
    clear t k T5 K5
    go_wp2_with fail
    refine ((bpair_is h_hp2.out T6.out)).mono ?_
    rintro o w7 ⟨rfl, t, k⟩
    have T7 := Lib.hid t
    have K7 := Lib.hid (K6.out.trans k)
    clear t k T6 K6
    go_wp2_with fail
    go_ret
    exact ⟨rfl, T7.out, K7.out⟩
  | @l2 P Q A B u v b c s1 s2 s3 s4 _ e3 e4 _ z1 z2 _ e0 sn H1 H2 b1 b2 c1 ho sn1 H3 H4 b3 b4 c2 ho2 hp1 hp2 hp3 =>
    have T0 := Lib.hid ha
    have K0 := Lib.hid (Kept.refl K w)
    subst e0
    have h_sn := Lib.hid sn
    have h_H1 := Lib.hid H1
    have h_H2 := Lib.hid H2
    have h_ho := Lib.hid ho
    have h_sn1 := Lib.hid sn1
    have h_H3 := Lib.hid H3
    have h_H4 := Lib.hid H4
    have h_ho2 := Lib.hid ho2
    have h_hp1 := Lib.hid hp1
    have h_hp2 := Lib.hid hp2
    have h_hp3 := Lib.hid hp3
    clear sn H1 H2 ho sn1 H3 H4 ho2 hp1 hp2 hp3
    have d1 : (Q : Int) + 1 < (P : Int) := by omega
    have d2 : (A : Int) < (B : Int) := by omega
    have d3 : (P : Int) ≤ 1000 := by omega
    have d4 : (Q : Int) ≤ 1000 := by omega
    have d5 : (A : Int) ≤ 1000 := by omega
    have d6 : (B : Int) ≤ 1000 := by omega
    clear b1 b2 c1 b3 b4 c2
    clear ha
    go_enter Try.func81, Try.ntmps81
    go_wp2_with fail
    refine ((bhigh_is h_sn.out h_H1.out _ (T0.out))).mono ?_
    rintro o w1 ⟨rfl, t, k⟩
    have T1 := Lib.hid t
    have K1 := Lib.hid (K0.out.trans (Kept.of_below k K))
    clear t k T0 K0
    go_wp2_with fail
    refine ((bhigh_is h_sn.out h_H2.out _ (T1.out))).mono ?_
    rintro o w2 ⟨rfl, t, k⟩
    have T2 := Lib.hid t
    have K2 := Lib.hid (K1.out.trans (Kept.of_below k K))
    clear t k T1 K1
    go_wp2_with fail
    refine ((bopen_is h_ho.out T2.out)).mono ?_
    rintro o w3 ⟨rfl, t, k⟩
    have T3 := Lib.hid t
    have K3 := Lib.hid (K2.out.trans k)
    clear t k T2 K2
    go_wp2_with fail
    refine ((bhigh_is h_sn1.out h_H3.out _ (T3.out))).mono ?_
    rintro o w4 ⟨rfl, t, k⟩
    have T4 := Lib.hid t
    have K4 := Lib.hid (K3.out.trans (Kept.of_below k K))
    clear t k T3 K3
    go_wp2_with fail
    refine ((bhigh_is h_sn1.out h_H4.out _ (T4.out))).mono ?_
    rintro o w5 ⟨rfl, t, k⟩
    have T5 := Lib.hid t
    have K5 := Lib.hid (K4.out.trans (Kept.of_below k K))
    clear t k T4 K4
    go_wp2_with fail
    refine ((bopen_is h_ho2.out T5.out)).mono ?_
    rintro o w6 ⟨rfl, t, k⟩
    have T6 := Lib.hid t
    have K6 := Lib.hid (K5.out.trans k)
    clear t k T5 K5
    go_wp2_with fail
    refine ((bpair_is h_hp1.out T6.out)).mono ?_
    rintro o w7 ⟨rfl, t, k⟩
    have T7 := Lib.hid t
    have K7 := Lib.hid (K6.out.trans k)
    clear t k T6 K6
    go_wp2_with fail
    refine ((bpair_is h_hp2.out T7.out)).mono ?_
    rintro o w8 ⟨rfl, t, k⟩
    have T8 := Lib.hid t
    have K8 := Lib.hid (K7.out.trans k)
    clear t k T7 K7
    go_wp2_with fail
    refine ((bpair_is h_hp3.out T8.out)).mono ?_
    rintro o w9 ⟨rfl, t, k⟩
    have T9 := Lib.hid t
    have K9 := Lib.hid (K8.out.trans k)
    clear t k T8 K8
    go_wp2_with fail
    go_ret
    exact ⟨rfl, T9.out, K9.out⟩
  | @r1 P Q A B u v s1 s2 _ e2 _ z _ e0 sn H1 H2 b1 b2 c1 ho sn1 H3 H4 b3 b4 c2 hp1 hp2 =>
    have T0 := Lib.hid ha
    have K0 := Lib.hid (Kept.refl K w)
    subst e0
    have h_sn := Lib.hid sn
    have h_H1 := Lib.hid H1
    have h_H2 := Lib.hid H2
    have h_ho := Lib.hid ho
    have h_sn1 := Lib.hid sn1
    have h_H3 := Lib.hid H3
    have h_H4 := Lib.hid H4
    have h_hp1 := Lib.hid hp1
    have h_hp2 := Lib.hid hp2
    clear sn H1 H2 ho sn1 H3 H4 hp1 hp2
    have d1 : (P : Int) + 1 < (Q : Int) := by omega
    have d0 : (P : Int) ≤ (Q : Int) + 1 := by omega
    have d2 : (A : Int) ≤ (B : Int) := by omega
    have d3 : (P : Int) ≤ 1000 := by omega
    have d4 : (Q : Int) ≤ 1000 := by omega
    have d5 : (A : Int) ≤ 1000 := by omega
    have d6 : (B : Int) ≤ 1000 := by omega
    clear b1 b2 c1 b3 b4 c2
    clear ha
    go_enter Try.func81, Try.ntmps81
    go_wp2_with fail
    refine ((bhigh_is h_sn.out h_H1.out _ (T0.out))).mono ?_
    rintro o w1 ⟨rfl, t, k⟩
    have T1 := Lib.hid t
    have K1 := Lib.hid (K0.out.trans (Kept.of_below k K))
    clear t k T0 K0
    go_wp2_with fail
    refine ((bhigh_is h_sn.out h_H2.out _ (T1.out))).mono ?_
    rintro o w2 ⟨rfl, t, k⟩
    have T2 := Lib.hid t
    have K2 := Lib.hid (K1.out.trans (Kept.of_below k K))
    clear t k T1 K1
    go_wp2_with fail
    refine ((bopen_is h_ho.out T2.out)).mono ?_
    rintro o w3 ⟨rfl, t, k⟩
    have T3 := Lib.hid t
    have K3 := Lib.hid (K2.out.trans k)
    clear t k T2 K2
    go_wp2_with fail
    refine ((bhigh_is h_sn1.out h_H4.out _ (T3.out))).mono ?_
    rintro o w4 ⟨rfl, t, k⟩
    have T4 := Lib.hid t
    have K4 := Lib.hid (K3.out.trans (Kept.of_below k K))
    clear t k T3 K3
    go_wp2_with fail
    refine ((bhigh_is h_sn1.out h_H3.out _ (T4.out))).mono ?_
    rintro o w5 ⟨rfl, t, k⟩
    have T5 := Lib.hid t
    have K5 := Lib.hid (K4.out.trans (Kept.of_below k K))
    clear t k T4 K4
    go_wp2_with fail
    refine ((bpair_is h_hp1.out T5.out)).mono ?_
    rintro o w6 ⟨rfl, t, k⟩
    have T6 := Lib.hid t
    have K6 := Lib.hid (K5.out.trans k)
    clear t k T5 K5
    go_wp2_with fail
    refine ((bpair_is h_hp2.out T6.out)).mono ?_
    rintro o w7 ⟨rfl, t, k⟩
    have T7 := Lib.hid t
    have K7 := Lib.hid (K6.out.trans k)
    clear t k T6 K6
    go_wp2_with fail
    go_ret
    exact ⟨rfl, T7.out, K7.out⟩
  | @r2 P Q A B u v b c s1 s2 s3 s4 _ e3 e4 _ z1 z2 _ e0 sn H1 H2 b1 b2 c1 ho sn1 H3 H4 b3 b4 c2 ho2 hp1 hp2 hp3 =>
    have T0 := Lib.hid ha
    have K0 := Lib.hid (Kept.refl K w)
    subst e0
    have h_sn := Lib.hid sn
    have h_H1 := Lib.hid H1
    have h_H2 := Lib.hid H2
    have h_ho := Lib.hid ho
    have h_sn1 := Lib.hid sn1
    have h_H3 := Lib.hid H3
    have h_H4 := Lib.hid H4
    have h_ho2 := Lib.hid ho2
    have h_hp1 := Lib.hid hp1
    have h_hp2 := Lib.hid hp2
    have h_hp3 := Lib.hid hp3
    clear sn H1 H2 ho sn1 H3 H4 ho2 hp1 hp2 hp3
    have d1 : (P : Int) + 1 < (Q : Int) := by omega
    have d0 : (P : Int) ≤ (Q : Int) + 1 := by omega
    have d2 : (B : Int) < (A : Int) := by omega
    have d3 : (P : Int) ≤ 1000 := by omega
    have d4 : (Q : Int) ≤ 1000 := by omega
    have d5 : (A : Int) ≤ 1000 := by omega
    have d6 : (B : Int) ≤ 1000 := by omega
    clear b1 b2 c1 b3 b4 c2
    clear ha
    go_enter Try.func81, Try.ntmps81
    go_wp2_with fail
    refine ((bhigh_is h_sn.out h_H1.out _ (T0.out))).mono ?_
    rintro o w1 ⟨rfl, t, k⟩
    have T1 := Lib.hid t
    have K1 := Lib.hid (K0.out.trans (Kept.of_below k K))
    clear t k T0 K0
    go_wp2_with fail
    refine ((bhigh_is h_sn.out h_H2.out _ (T1.out))).mono ?_
    rintro o w2 ⟨rfl, t, k⟩
    have T2 := Lib.hid t
    have K2 := Lib.hid (K1.out.trans (Kept.of_below k K))
    clear t k T1 K1
    go_wp2_with fail
    refine ((bopen_is h_ho.out T2.out)).mono ?_
    rintro o w3 ⟨rfl, t, k⟩
    have T3 := Lib.hid t
    have K3 := Lib.hid (K2.out.trans k)
    clear t k T2 K2
    go_wp2_with fail
    refine ((bhigh_is h_sn1.out h_H4.out _ (T3.out))).mono ?_
    rintro o w4 ⟨rfl, t, k⟩
    have T4 := Lib.hid t
    have K4 := Lib.hid (K3.out.trans (Kept.of_below k K))
    clear t k T3 K3
    go_wp2_with fail
    refine ((bhigh_is h_sn1.out h_H3.out _ (T4.out))).mono ?_
    rintro o w5 ⟨rfl, t, k⟩
    have T5 := Lib.hid t
    have K5 := Lib.hid (K4.out.trans (Kept.of_below k K))
    clear t k T4 K4
    go_wp2_with fail
    refine ((bopen_is h_ho2.out T5.out)).mono ?_
    rintro o w6 ⟨rfl, t, k⟩
    have T6 := Lib.hid t
    have K6 := Lib.hid (K5.out.trans k)
    clear t k T5 K5
    go_wp2_with fail
    refine ((bpair_is h_hp1.out T6.out)).mono ?_
    rintro o w7 ⟨rfl, t, k⟩
    have T7 := Lib.hid t
    have K7 := Lib.hid (K6.out.trans k)
    clear t k T6 K6
    go_wp2_with fail
    refine ((bpair_is h_hp2.out T7.out)).mono ?_
    rintro o w8 ⟨rfl, t, k⟩
    have T8 := Lib.hid t
    have K8 := Lib.hid (K7.out.trans k)
    clear t k T7 K7
    go_wp2_with fail
    refine ((bpair_is h_hp3.out T8.out)).mono ?_
    rintro o w9 ⟨rfl, t, k⟩
    have T9 := Lib.hid t
    have K9 := Lib.hid (K8.out.trans k)
    clear t k T8 K8
    go_wp2_with fail
    go_ret
    exact ⟨rfl, T9.out, K9.out⟩
end
end Go.Proofs.Ytdipgcbppggdhaa
