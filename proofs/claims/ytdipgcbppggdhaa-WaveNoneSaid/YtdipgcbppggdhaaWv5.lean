/- Package wave: a node of kids that are handed over. -/
import Derived.Test.YtdipgcbppggdhaaWv3
namespace Go.Proofs.Ytdipgcbppggdhaa
set_option maxRecDepth 100000
open Go.RowKit
section
variable {w : World} {K : Nat → Prop} {p : Nat} {s s' : Ar} {e e' r : Int}
set_option maxRecDepth 100000 in
set_option maxHeartbeats 4000000 in
theorem wmade_err {t k0 k1 k2 k3 a b : Int} (he : e ≠ 0) (sn : Snd s) (ha : Ars w K p s) :
    Calls Try.prog 51 #[.pointer (some ⟨p, 0, none⟩), .agg #[.int .i64 t, .int .i64 k0, .int .i64 k1, .int .i64 k2, .int .i64 k3, .int .u64 a, .int .u64 b], .int .i64 e] w fun o w' => o = .returned (.tuple #[.int .i64 0, .int .i64 e]) ∧ Ars w' K p (s.drops [k0, k1, k2, k3]) ∧ Kept K w w' := by
  obtain ⟨S1, hS1⟩ : ∃ S1, S1 = s := ⟨_, rfl⟩
  subst hS1
  have OK1 := Lib.hid (show S1.Ok 100000000000 from sn)
  have A1 := Lib.hid (ha.alloc (.cells #[.int .i64 t, .int .i64 k0, .int .i64 k1, .int .i64 k2, .int .i64 k3, .int .u64 a, .int .u64 b] 47))
  have K1 := Lib.hid ((Kept.refl K w).alloc (.cells #[.int .i64 t, .int .i64 k0, .int .i64 k1, .int .i64 k2, .int .i64 k3, .int .u64 a, .int .u64 b] 47))
  have ge : (e == 0) = false := by simpa using he
  clear sn ha
  go_enter Try.func51, Try.ntmps51
  go_wp2_with fail
  go_loopw [27] (fun i W => ∃ j : Nat, i = .int .i64 (j : Int) ∧ j ≤ 4 ∧ Ars W K p (S1.drops (([k0, k1, k2, k3] : List Int).take j)) ∧ Kept K w W) (fun i _ => 4 - (intOf i).toNat)
  case atStart => exact ⟨0, rfl, by omega, A1.out, K1.out⟩
  case round =>
    obtain ⟨j, rfl, j4, ha, hk⟩ := hrel
    have HA := Lib.hid ha
    have HK := Lib.hid hk
    clear ha hk
    have hcase : j = 0 ∨ j = 1 ∨ j = 2 ∨ j = 3 ∨ j = 4 := by omega
    rcases hcase with rfl | rfl | rfl | rfl | rfl
    · skip
      have hix := ix4_0 (.int .i64 k0) (.int .i64 k1) (.int .i64 k2) (.int .i64 k3)
      have H := Lib.hid (drop_is k0 (s' := ((S1.drops (([k0, k1, k2, k3] : List Int).take 0)).drop k0).1) (e := ((S1.drops (([k0, k1, k2, k3] : List Int).take 0)).drop k0).2) rfl HA.out ((ok_drops (([k0, k1, k2, k3] : List Int).take 0) OK1.out).fit (by decide)))
      go_wp2_with fail
      refine H.out.mono ?_
      rintro e w5 ⟨rfl, ha, hk⟩
      have KK := Lib.hid (HK.out.trans hk)
      have AA := Lib.hid ha
      clear ha hk H
      go_wp2_with fail
      go_roundw
      case rel => exact ⟨0 + 1, by first | rfl | go_num, by omega, AA.out, KK.out⟩
      case measure => simp [intOf]
    · skip
      have hix := ix4_1 (.int .i64 k0) (.int .i64 k1) (.int .i64 k2) (.int .i64 k3)
      have H := Lib.hid (drop_is k1 (s' := ((S1.drops (([k0, k1, k2, k3] : List Int).take 1)).drop k1).1) (e := ((S1.drops (([k0, k1, k2, k3] : List Int).take 1)).drop k1).2) rfl HA.out ((ok_drops (([k0, k1, k2, k3] : List Int).take 1) OK1.out).fit (by decide)))
      go_wp2_with fail
      refine H.out.mono ?_
      rintro e w5 ⟨rfl, ha, hk⟩
      have KK := Lib.hid (HK.out.trans hk)
      have AA := Lib.hid ha
      clear ha hk H
      go_wp2_with fail
      go_roundw
      case rel => exact ⟨1 + 1, by first | rfl | go_num, by omega, AA.out, KK.out⟩
      case measure => simp [intOf]
    · skip
      have hix := ix4_2 (.int .i64 k0) (.int .i64 k1) (.int .i64 k2) (.int .i64 k3)
      have H := Lib.hid (drop_is k2 (s' := ((S1.drops (([k0, k1, k2, k3] : List Int).take 2)).drop k2).1) (e := ((S1.drops (([k0, k1, k2, k3] : List Int).take 2)).drop k2).2) rfl HA.out ((ok_drops (([k0, k1, k2, k3] : List Int).take 2) OK1.out).fit (by decide)))
      go_wp2_with fail
      refine H.out.mono ?_
      rintro e w5 ⟨rfl, ha, hk⟩
      have KK := Lib.hid (HK.out.trans hk)
      have AA := Lib.hid ha
      clear ha hk H
      go_wp2_with fail
      go_roundw
      case rel => exact ⟨2 + 1, by first | rfl | go_num, by omega, AA.out, KK.out⟩
      case measure => simp [intOf]
    · skip
      have hix := ix4_3 (.int .i64 k0) (.int .i64 k1) (.int .i64 k2) (.int .i64 k3)
      have H := Lib.hid (drop_is k3 (s' := ((S1.drops (([k0, k1, k2, k3] : List Int).take 3)).drop k3).1) (e := ((S1.drops (([k0, k1, k2, k3] : List Int).take 3)).drop k3).2) rfl HA.out ((ok_drops (([k0, k1, k2, k3] : List Int).take 3) OK1.out).fit (by decide)))
      go_wp2_with fail
      refine H.out.mono ?_
      rintro e w5 ⟨rfl, ha, hk⟩
      have KK := Lib.hid (HK.out.trans hk)
      have AA := Lib.hid ha
      clear ha hk H
      go_wp2_with fail
      go_roundw
      case rel => exact ⟨3 + 1, by first | rfl | go_num, by omega, AA.out, KK.out⟩
      case measure => simp [intOf]
    · go_wp2_with fail
      go_ret2
      exact ⟨rfl, HA.out, HK.out⟩
set_option maxRecDepth 100000 in
set_option maxHeartbeats 4000000 in
theorem wmade_none {t k1 k2 k3 a b : Int} (sn : Snd s) (ha : Ars w K p s) :
    Calls Try.prog 51 #[.pointer (some ⟨p, 0, none⟩), .agg #[.int .i64 t, .int .i64 0, .int .i64 k1, .int .i64 k2, .int .i64 k3, .int .u64 a, .int .u64 b], .int .i64 0] w fun o w' => o = .returned (.tuple #[.int .i64 0, .int .i64 0]) ∧ Ars w' K p (s.drops [0, k1, k2, k3]) ∧ Kept K w w' := by
  obtain ⟨S1, hS1⟩ : ∃ S1, S1 = s := ⟨_, rfl⟩
  subst hS1
  obtain ⟨k0, hk0⟩ : ∃ k0 : Int, k0 = 0 := ⟨_, rfl⟩
  have OK1 := Lib.hid (show S1.Ok 100000000000 from sn)
  have A1 := Lib.hid (ha.alloc (.cells #[.int .i64 t, .int .i64 0, .int .i64 k1, .int .i64 k2, .int .i64 k3, .int .u64 a, .int .u64 b] 47))
  have K1 := Lib.hid ((Kept.refl K w).alloc (.cells #[.int .i64 t, .int .i64 0, .int .i64 k1, .int .i64 k2, .int .i64 k3, .int .u64 a, .int .u64 b] 47))
  clear sn ha
  subst hk0
  go_enter Try.func51, Try.ntmps51
  go_wp2_with fail
  go_loopw [27] (fun i W => ∃ j : Nat, i = .int .i64 (j : Int) ∧ j ≤ 4 ∧ Ars W K p (S1.drops (([0, k1, k2, k3] : List Int).take j)) ∧ Kept K w W) (fun i _ => 4 - (intOf i).toNat)
  case atStart => exact ⟨0, rfl, by omega, A1.out, K1.out⟩
  case round =>
    obtain ⟨j, rfl, j4, ha, hk⟩ := hrel
    have HA := Lib.hid ha
    have HK := Lib.hid hk
    clear ha hk
    have hcase : j = 0 ∨ j = 1 ∨ j = 2 ∨ j = 3 ∨ j = 4 := by omega
    rcases hcase with rfl | rfl | rfl | rfl | rfl
    · skip
      have hix := ix4_0 (.int .i64 0) (.int .i64 k1) (.int .i64 k2) (.int .i64 k3)
      have H := Lib.hid (drop_is 0 (s' := ((S1.drops (([0, k1, k2, k3] : List Int).take 0)).drop 0).1) (e := ((S1.drops (([0, k1, k2, k3] : List Int).take 0)).drop 0).2) rfl HA.out ((ok_drops (([0, k1, k2, k3] : List Int).take 0) OK1.out).fit (by decide)))
      go_wp2_with fail
      refine H.out.mono ?_
      rintro e w5 ⟨rfl, ha, hk⟩
      have KK := Lib.hid (HK.out.trans hk)
      have AA := Lib.hid ha
      clear ha hk H
      go_wp2_with fail
      go_roundw
      case rel => exact ⟨0 + 1, by first | rfl | go_num, by omega, AA.out, KK.out⟩
      case measure => simp [intOf]
    · skip
      have hix := ix4_1 (.int .i64 0) (.int .i64 k1) (.int .i64 k2) (.int .i64 k3)
      have H := Lib.hid (drop_is k1 (s' := ((S1.drops (([0, k1, k2, k3] : List Int).take 1)).drop k1).1) (e := ((S1.drops (([0, k1, k2, k3] : List Int).take 1)).drop k1).2) rfl HA.out ((ok_drops (([0, k1, k2, k3] : List Int).take 1) OK1.out).fit (by decide)))
      go_wp2_with fail
      refine H.out.mono ?_
      rintro e w5 ⟨rfl, ha, hk⟩
      have KK := Lib.hid (HK.out.trans hk)
      have AA := Lib.hid ha
      clear ha hk H
      go_wp2_with fail
      go_roundw
      case rel => exact ⟨1 + 1, by first | rfl | go_num, by omega, AA.out, KK.out⟩
      case measure => simp [intOf]
    · skip
      have hix := ix4_2 (.int .i64 0) (.int .i64 k1) (.int .i64 k2) (.int .i64 k3)
      have H := Lib.hid (drop_is k2 (s' := ((S1.drops (([0, k1, k2, k3] : List Int).take 2)).drop k2).1) (e := ((S1.drops (([0, k1, k2, k3] : List Int).take 2)).drop k2).2) rfl HA.out ((ok_drops (([0, k1, k2, k3] : List Int).take 2) OK1.out).fit (by decide)))
      go_wp2_with fail
      refine H.out.mono ?_
      rintro e w5 ⟨rfl, ha, hk⟩
      have KK := Lib.hid (HK.out.trans hk)
      have AA := Lib.hid ha
      clear ha hk H
      go_wp2_with fail
      go_roundw
      case rel => exact ⟨2 + 1, by first | rfl | go_num, by omega, AA.out, KK.out⟩
      case measure => simp [intOf]
    · skip
      have hix := ix4_3 (.int .i64 0) (.int .i64 k1) (.int .i64 k2) (.int .i64 k3)
      have H := Lib.hid (drop_is k3 (s' := ((S1.drops (([0, k1, k2, k3] : List Int).take 3)).drop k3).1) (e := ((S1.drops (([0, k1, k2, k3] : List Int).take 3)).drop k3).2) rfl HA.out ((ok_drops (([0, k1, k2, k3] : List Int).take 3) OK1.out).fit (by decide)))
      go_wp2_with fail
      refine H.out.mono ?_
      rintro e w5 ⟨rfl, ha, hk⟩
      have KK := Lib.hid (HK.out.trans hk)
      have AA := Lib.hid ha
      clear ha hk H
      go_wp2_with fail
      go_roundw
      case rel => exact ⟨3 + 1, by first | rfl | go_num, by omega, AA.out, KK.out⟩
      case measure => simp [intOf]
    · go_wp2_with fail
      go_ret2
      exact ⟨rfl, HA.out, HK.out⟩
set_option maxRecDepth 100000 in
set_option maxHeartbeats 4000000 in
theorem wmade_ok {t k0 k1 k2 k3 a b : Int} (h0 : k0 ≠ 0) (hn : nodeF s 0 ⟨t, k0, k1, k2, k3, a, b⟩ = (s', e', r)) (sn : Snd s) (ha : Ars w K p s) :
    Calls Try.prog 51 #[.pointer (some ⟨p, 0, none⟩), .agg #[.int .i64 t, .int .i64 k0, .int .i64 k1, .int .i64 k2, .int .i64 k3, .int .u64 a, .int .u64 b], .int .i64 0] w fun o w' => o = .returned (.tuple #[.int .i64 r, .int .i64 e']) ∧ Ars w' K p s' ∧ Kept K w w' := by
  unfold nodeF at hn
  rw [if_pos rfl] at hn
  have hs' : (s.make ⟨t, k0, k1, k2, k3, a, b⟩).1.drops [k0, k1, k2, k3] = s' := (Prod.mk.inj hn).1
  have he' : (s.make ⟨t, k0, k1, k2, k3, a, b⟩).2.2 = e' := (Prod.mk.inj (Prod.mk.inj hn).2).1
  have hr : (s.make ⟨t, k0, k1, k2, k3, a, b⟩).2.1 = r := (Prod.mk.inj (Prod.mk.inj hn).2).2
  subst hs' he' hr
  have HM := Lib.hid (make_is ⟨t, k0, k1, k2, k3, a, b⟩ (s' := (s.make ⟨t, k0, k1, k2, k3, a, b⟩).1) (h := (s.make ⟨t, k0, k1, k2, k3, a, b⟩).2.1) (e := (s.make ⟨t, k0, k1, k2, k3, a, b⟩).2.2) rfl (ha.allocK (.cells #[.int .i64 t, .int .i64 k0, .int .i64 k1, .int .i64 k2, .int .i64 k3, .int .u64 a, .int .u64 b] 47)) sn (by decide))
  have OK1 := Lib.hid (ok_make sn ⟨t, k0, k1, k2, k3, a, b⟩)
  have hx := heap_alloc_new w (.cells #[.int .i64 t, .int .i64 k0, .int .i64 k1, .int .i64 k2, .int .i64 k3, .int .u64 a, .int .u64 b] 47)
  have KA := Lib.hid ((Kept.refl K w).alloc (.cells #[.int .i64 t, .int .i64 k0, .int .i64 k1, .int .i64 k2, .int .i64 k3, .int .u64 a, .int .u64 b] 47))
  have ge : (k0 == 0) = false := by simpa using h0
  have gn : (k0 != 0) = true := by simpa using h0
  clear hn sn ha
  generalize (s.make ⟨t, k0, k1, k2, k3, a, b⟩).1 = S1 at *
  generalize (s.make ⟨t, k0, k1, k2, k3, a, b⟩).2.1 = r at *
  generalize (s.make ⟨t, k0, k1, k2, k3, a, b⟩).2.2 = e' at *
  go_enter Try.func51, Try.ntmps51
  go_wp2_with fail
  refine HM.out.mono ?_
  rintro o w2 ⟨rfl, ha, hk⟩
  have hx2 := (hk.block _ (lt_heap hx) (.inr rfl)).trans hx
  have A1 := Lib.hid (ha.more fun b h => .inl h)
  have K1 := Lib.hid (KA.out.trans (hk.mono fun b _ h => .inl h))
  obtain ⟨c0, c1, c2, c3, c4, c5, c6⟩ := box7 hx2
  clear ha hk HM KA hx hx2
  go_wp2_with fail
  go_loopw [27] (fun i W => ∃ j : Nat, i = .int .i64 (j : Int) ∧ j ≤ 4 ∧ Ars W K p (S1.drops (([k0, k1, k2, k3] : List Int).take j)) ∧ Kept K w W) (fun i _ => 4 - (intOf i).toNat)
  case atStart => exact ⟨0, rfl, by omega, A1.out, K1.out⟩
  case round =>
    obtain ⟨j, rfl, j4, ha, hk⟩ := hrel
    have HA := Lib.hid ha
    have HK := Lib.hid hk
    clear ha hk
    have hcase : j = 0 ∨ j = 1 ∨ j = 2 ∨ j = 3 ∨ j = 4 := by omega
    rcases hcase with rfl | rfl | rfl | rfl | rfl
    · skip
      have hix := ix4_0 (.int .i64 k0) (.int .i64 k1) (.int .i64 k2) (.int .i64 k3)
      have H := Lib.hid (drop_is k0 (s' := ((S1.drops (([k0, k1, k2, k3] : List Int).take 0)).drop k0).1) (e := ((S1.drops (([k0, k1, k2, k3] : List Int).take 0)).drop k0).2) rfl HA.out ((ok_drops (([k0, k1, k2, k3] : List Int).take 0) OK1.out).fit (by decide)))
      go_wp2_with fail
      refine H.out.mono ?_
      rintro e w5 ⟨rfl, ha, hk⟩
      have KK := Lib.hid (HK.out.trans hk)
      have AA := Lib.hid ha
      clear ha hk H
      go_wp2_with fail
      go_roundw
      case rel => exact ⟨0 + 1, by first | rfl | go_num, by omega, AA.out, KK.out⟩
      case measure => simp [intOf]
    · skip
      have hix := ix4_1 (.int .i64 k0) (.int .i64 k1) (.int .i64 k2) (.int .i64 k3)
      have H := Lib.hid (drop_is k1 (s' := ((S1.drops (([k0, k1, k2, k3] : List Int).take 1)).drop k1).1) (e := ((S1.drops (([k0, k1, k2, k3] : List Int).take 1)).drop k1).2) rfl HA.out ((ok_drops (([k0, k1, k2, k3] : List Int).take 1) OK1.out).fit (by decide)))
      go_wp2_with fail
      refine H.out.mono ?_
      rintro e w5 ⟨rfl, ha, hk⟩
      have KK := Lib.hid (HK.out.trans hk)
      have AA := Lib.hid ha
      clear ha hk H
      go_wp2_with fail
      go_roundw
      case rel => exact ⟨1 + 1, by first | rfl | go_num, by omega, AA.out, KK.out⟩
      case measure => simp [intOf]
    · skip
      have hix := ix4_2 (.int .i64 k0) (.int .i64 k1) (.int .i64 k2) (.int .i64 k3)
      have H := Lib.hid (drop_is k2 (s' := ((S1.drops (([k0, k1, k2, k3] : List Int).take 2)).drop k2).1) (e := ((S1.drops (([k0, k1, k2, k3] : List Int).take 2)).drop k2).2) rfl HA.out ((ok_drops (([k0, k1, k2, k3] : List Int).take 2) OK1.out).fit (by decide)))
      go_wp2_with fail
      refine H.out.mono ?_
      rintro e w5 ⟨rfl, ha, hk⟩
      have KK := Lib.hid (HK.out.trans hk)
      have AA := Lib.hid ha
      clear ha hk H
      go_wp2_with fail
      go_roundw
      case rel => exact ⟨2 + 1, by first | rfl | go_num, by omega, AA.out, KK.out⟩
      case measure => simp [intOf]
    · skip
      have hix := ix4_3 (.int .i64 k0) (.int .i64 k1) (.int .i64 k2) (.int .i64 k3)
      have H := Lib.hid (drop_is k3 (s' := ((S1.drops (([k0, k1, k2, k3] : List Int).take 3)).drop k3).1) (e := ((S1.drops (([k0, k1, k2, k3] : List Int).take 3)).drop k3).2) rfl HA.out ((ok_drops (([k0, k1, k2, k3] : List Int).take 3) OK1.out).fit (by decide)))
      go_wp2_with fail
      refine H.out.mono ?_
      rintro e w5 ⟨rfl, ha, hk⟩
      have KK := Lib.hid (HK.out.trans hk)
      have AA := Lib.hid ha
      clear ha hk H
      go_wp2_with fail
      go_roundw
      case rel => exact ⟨3 + 1, by first | rfl | go_num, by omega, AA.out, KK.out⟩
      case measure => simp [intOf]
    · go_wp2_with fail
      go_ret2
      exact ⟨rfl, HA.out, HK.out⟩
end
end Go.Proofs.Ytdipgcbppggdhaa
