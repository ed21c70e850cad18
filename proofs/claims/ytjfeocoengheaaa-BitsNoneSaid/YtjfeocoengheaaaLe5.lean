/- Package leaf: the place of one of those that are alike. -/
import Derived.Test.YtjfeocoengheaaaLe4
namespace Go.Proofs.Ytjfeocoengheaaa
set_option maxRecDepth 100000
open Go.RowKit

theorem count_take_succ {l : List Bool} {one : Bool} {j : Nat} (hj : j < l.length) : (l.take (j + 1)).count one = (l.take j).count one + if l.getD j false = one then 1 else 0 := by
  rw [List.take_succ_eq_append_getElem hj, List.count_append, List.count_singleton]
  have : l.getD j false = l[j] := by simp [List.getD, hj]
  rw [this]
  by_cases c : l[j] = one
  · rw [if_pos c, if_pos (by simpa using c)]
  · rw [if_neg c, if_neg (by simpa using c)]
/-- While Select goes up. -/
structure SelAt (l : List Bool) (one : Bool) (k0 : Nat) (w : World) (j m : Nat) (W : World) : Prop where
  lt : j ≤ l.length
  cnt : (l.take j).count one + m = k0
  below : Below w.heap.size w W
  box : W.heap[w.heap.size]? = some (.cells #[.int .u64 (bN l), .int .i64 l.length] 66 (0, 0))
set_option maxHeartbeats 4000000 in
theorem lsel_is (l : List Bool) (one : Bool) (k : Nat) (w : World) (h : l.length ≤ 64) (hk : k < l.count one) :
    Calls Try.prog 35 #[.agg #[.int .u64 (bN l), .int .i64 l.length], .bool one, .int .i64 k] w fun e w' =>
      e = .returned (.int .i64 (bsel l one k)) ∧ Below w.heap.size w w' := by
  have HR := fun w => Lib.hid (right_is l w (by omega))
  have HG := fun j w hj => Lib.hid (lget_is l j w h hj)
  have hkl : l.count one ≤ l.length := List.count_le_length
  have hk64 : (k : Int) ≤ 64 := by omega
  have Hk := Lib.hid hk
  clear hk hkl
  go_enter Try.func35, Try.ntmps35
  go_wp2_with fail
  have hx0 := heap_alloc_new w (.cells #[.int .u64 (bN l), .int .i64 l.length] 66)
  refine (HR _).out.mono ?_
  rintro e w1 ⟨rfl, hb⟩
  have hx1 := (hb.block w.heap.size (by simp)).trans hx0
  have hs0 := Lib.hid (show SelAt l one k w 0 k w1 from ⟨Nat.zero_le _, by simp, ((Below.refl w.heap.size w).alloc (Nat.le_refl _) _).trans (hb.mono (by simp)), hx1⟩)
  have c1 : w1.cell? ⟨w.heap.size, 1, none⟩ = some (.int .i64 l.length) := cell_of_row _ _ _ _ _ _ hx1
  clear hb hx0 hx1
  go_wp2_with fail
  clear c1
  go_loopw [2, 17] (fun kk i W => ∃ j m : Nat, kk = .int .i64 m ∧ i = .int .i64 j ∧ SelAt l one k w j m W) (fun _ i _ => l.length - (intOf i).toNat)
  case atStart => exact ⟨0, k, rfl, rfl, hs0.out⟩
  case round =>
    obtain ⟨j, m, rfl, rfl, hs⟩ := hrel
    clear hs0
    have hj : j < l.length := by
      have := hs.lt
      have h1 := hs.cnt
      have h2 := Hk.out
      by_cases e : j = l.length
      · subst e; rw [List.take_length] at h1; omega
      · omega
    have hj' : (j : Int) < (l.length : Int) := by omega
    have hm : (m : Int) ≤ 64 := by have := hs.cnt; omega
    have Hs := Lib.hid hs
    have c0 : wr.cell? ⟨w.heap.size, 0, none⟩ = some (.int .u64 (bN l)) := cell_of_row _ _ _ _ _ _ hs.box
    have c1 : wr.cell? ⟨w.heap.size, 1, none⟩ = some (.int .i64 l.length) := cell_of_row _ _ _ _ _ _ hs.box
    have H := HG j wr hj
    have hcs := Lib.hid (count_take_succ (l := l) (one := one) hj)
    have Hj := Lib.hid hj
    clear hs HR HG hj
    by_cases hb : l.getD j false = one
    · by_cases hm0 : m = 0
      · subst hm0
        have hres := Lib.hid (bsel_eq l one k j (by have := Hs.out.cnt; omega) Hj.out hb)
        rw [hb] at H
        clear hb
        go_wp2_with fail
        refine H.out.mono ?_
        rintro e w2 ⟨rfl, hb2⟩
        have hf := Lib.hid (Hs.out.below.trans (hb2.mono Hs.out.below.size))
        clear hb2
        go_wp2_with fail
        go_ret
        exact ⟨by rw [hres.out]; rfl, hf.out⟩
      · have hm1 : ((m : Int) == 0) = false := by simpa using hm0
        have hm2 : 1 ≤ (m : Int) := by omega
        rw [hb] at H
        have hb' := Lib.hid hb
        clear hb hm0
        go_wp2_with fail
        refine H.out.mono ?_
        rintro e w2 ⟨rfl, hb2⟩
        have hs2 := Lib.hid (show SelAt l one k w (j + 1) (m - 1) w2 from ⟨by have := Hj.out; omega, by have := Hs.out.cnt; have h3 := hcs.out; rw [if_pos hb'.out] at h3; omega, Hs.out.below.trans (hb2.mono Hs.out.below.size), (hb2.block _ (lt_heap Hs.out.box)).trans Hs.out.box⟩)
        clear hb2
        go_wp2_with fail
        go_roundw
        case rel => exact ⟨j + 1, m - 1, by rw [show ((m - 1 : Nat) : Int) = (m : Int) - 1 by omega], by go_num, hs2.out⟩
        case measure => simp [intOf]; omega
    · have hne : (l.getD j false == one) = false := by simpa using hb
      have hb' := Lib.hid hb
      clear hb
      generalize hg : l.getD j false = g at *
      have Hg := Lib.hid hg
      clear hg
      go_wp2_with fail
      refine H.out.mono ?_
      rintro e w2 ⟨rfl, hb2⟩
      have hs2 := Lib.hid (show SelAt l one k w (j + 1) m w2 from ⟨by have := Hj.out; omega, by have := Hs.out.cnt; have h3 := hcs.out; rw [if_neg hb'.out] at h3; omega, Hs.out.below.trans (hb2.mono Hs.out.below.size), (hb2.block _ (lt_heap Hs.out.box)).trans Hs.out.box⟩)
      clear hb2
      go_wp2_with fail
      go_roundw
      case rel => exact ⟨j + 1, m, rfl, by go_num, hs2.out⟩
      case measure => simp [intOf]; omega
end Go.Proofs.Ytjfeocoengheaaa
