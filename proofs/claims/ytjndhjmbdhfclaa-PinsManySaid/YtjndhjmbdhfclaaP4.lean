/- All snapshots that are open, in their order. -/
import Derived.Test.YtjndhjmbdhfclaaP2
import Derived.Test.YtjndhjmbdhfclaaSrt
import Derived.Maps.RangeWalk
namespace Go.Proofs.Ytjndhjmbdhfclaa
set_option maxRecDepth 100000
open Go.RowKit Go.Maps

theorem ranges_same {H : Type} {P : Program} {k : TypeId} {R : Value → Option (DataW H × List MemPlace)} {w w' : World} {b r n : Nat} {D : DataW H} {left : Lit → Bool} {cnt : Nat} (h : w.ranges P k R b r n D left cnt) (hb : w'.heap[b]? = w.heap[b]?) (hr : w'.heap[r]? = w.heap[r]?) : w'.ranges P k R b r n D left cnt := by
  obtain ⟨es, clock, since, seen, c0, h1, h2, h3, h4, h5, h6⟩ := h
  exact ⟨es, clock, since, seen, c0, hb.trans h1, h2, h3, h4, hr.trans h5, h6⟩
theorem pinElem_form {v : Value} {y : DataW Unit × List MemPlace} (h : pinElem v = some y) : ∃ c : Int × Int, v = .agg #[.int .i64 c.1, .int .i64 c.2] := by
  unfold pinElem at h
  split at h
  · rename_i cs
    unfold pinCells at h
    split at h
    · rename_i x y he
      exact ⟨(x, y), by rw [show cs = #[.int .i64 x, .int .i64 y] by rw [← Array.toArray_toList (xs := cs), he]]⟩
    · cases h
  · cases h
theorem sameKey_int (a b : Int) : (Lit.int .i64 a).sameKey (Lit.int .i64 b) = decide (a = b) := by
  by_cases e : a = b
  · subst e; simp [Lit.sameKey]
  · rw [decide_eq_false e]
    exact sameKey_ne (by intro e'; injection e' with _ e'; exact e e')
/-- While all are told. -/
structure AS (w : World) (mb r : Nat) (es : List (Int × Int × Int)) (D : DataW Unit) (last : Int) (left : Lit → Bool) (cnt : Nat) (Ko : Nat → Prop) (out : List Int) (vo : Value) (W : World) : Prop where
  rg : W.ranges Try.prog 3 pinElem mb r es.length D left cnt
  lo : Lst W w.heap.size Ko vo out
  ko : ∀ b, Ko b → w.heap.size ≤ b ∧ b < W.heap.size ∧ b ≠ mb ∧ b ≠ r
  nd : out.Nodup
  inn : ∀ x, x ∈ out → x ∈ es.map (·.1)
  out : ∀ x, x ∈ es.map (·.1) → (Lit.int .i64 x).wf = true → (x ∈ out ↔ left (.int .i64 x) = false)
  rw_ : w.heap.size ≤ r
  mw : mb < w.heap.size
  bel : Below w.heap.size w W
section
variable {w W : World} {K : Nat → Prop} {P q p mb r' : Nat} {s : Ar} {r n f : Int} {es : List (Int × Int × Int)} {last : Int} {D : DataW Unit} {left : Lit → Bool} {cnt : Nat} {Ko : Nat → Prop} {out : List Int} {vo : Value}
theorem AS.push {W1 W2 : World} {o : Obj} {x : Int} {cnt1 : Nat} {Ko' : Nat → Prop} {vo' : Value} (a : AS w mb r' es D last left cnt Ko out vo W) (hl : left (.int .i64 x) = true) (hx : x ∈ es.map (·.1)) (wx : (Lit.int .i64 x).wf = true)
    (hr : W1.ranges Try.prog 3 pinElem mb r' es.length D (fun z => left z && !z.sameKey (.int .i64 x)) cnt1) (hg : W.grownBy W1 (some r')) (hp : Pushed (W1.alloc o) W2 w.heap.size Ko Ko' vo' (out ++ [x])) :
    AS w mb r' es D last (fun z => left z && !z.sameKey (.int .i64 x)) cnt1 Ko' (out ++ [x]) vo' W2 := by
  have hmb := a.bel.size
  have hs := hg.size
  have hmw := a.mw
  have bel1 : Below w.heap.size w W1 := a.bel.grown hg a.bel.size fun k e => by cases e; exact a.rw_
  have hr1 := hr.lt
  refine ⟨ranges_same (ranges_same hr (Below.heap_alloc _ _ _ (by omega)) (Below.heap_alloc _ _ _ hr1)) (hp.same mb (by simp; omega) fun e => (a.ko _ e).2.2.1 rfl) (hp.same r' (by simp; omega) fun e => (a.ko _ e).2.2.2 rfl), hp.lst, fun b hb => ?_, ?_, fun y hy => ?_, fun y hy wy => ?_, a.rw_, a.mw, (bel1.alloc bel1.size o).trans hp.below⟩
  · obtain ⟨c, d⟩ := hp.new b hb
    rcases d with d | d
    · have := a.ko b d
      exact ⟨this.1, c, this.2.2⟩
    · simp at d
      exact ⟨by omega, c, by omega, by omega⟩
  · rw [List.nodup_append]
    refine ⟨a.nd, by simp, fun y hy z hz => ?_⟩
    have : z = x := by simpa using hz
    subst this
    rintro rfl
    have := (a.out y hx wx).1 hy
    rw [hl] at this
    cases this
  · rcases List.mem_append.1 hy with hy | hy
    · exact a.inn y hy
    · have : y = x := by simpa using hy
      rw [this]; exact hx
  · rw [List.mem_append, a.out y hy wy, sameKey_int]
    simp only [List.mem_singleton, Bool.and_eq_false_iff, Bool.not_eq_false', decide_eq_true_eq]
set_option maxHeartbeats 4000000 in
theorem pall_is (h : Pin w K P q p mb s r n f es last) (hl : last ≤ 1000000) :
    Calls Try.prog 26 #[.pointer (some ⟨P, 0, none⟩)] w fun e w' => ∃ v ys Ko, e = .returned v ∧ Lst w' w.heap.size Ko v ys ∧ (∀ b, Ko b → w.heap.size ≤ b ∧ b < w'.heap.size) ∧ Asc ys ∧ (∀ x, x ∈ ys ↔ x ∈ es.map (·.1)) ∧ Below w.heap.size w w' := by
  have Hh := Lib.hid h
  have c2 := h.c2
  obtain ⟨D, hD, hat, hhas, hsz, hnd⟩ := h.map
  have Hh2 := Lib.hid hhas
  have HD := Lib.hid hD
  clear h hat hhas hsz hnd hD
  go_enter Try.func26, Try.ntmps26
  go_wp2_with (first | (at_range; refine wpList_range_own _ rfl _ 81 rfl 3 87 pkeyed_int Try.underlying81 _ mb es.length D rfl HD.out ?_; intro w0 hrg0 hg0 hs0))
  go_frame
  have h0 : AS w mb w.heap.size es D last (has D) (size D) (fun _ => False) [] (.slice none 0 0) w0 :=
    ⟨hrg0, Lst.nil _ _ _, fun b h => h.elim, List.nodup_nil, fun x hx => (by cases hx), fun x hx wx => by rw [Hh2.out x wx]; simp only [phas, hx, decide_true]; simp, Nat.le_refl _, Hh.out.map.lt, (Below.refl _ _).grown hg0 (Nat.le_refl _) fun k e => by cases e⟩
  have H0 := Lib.hid h0
  clear h0 hrg0 hg0 hs0
  go_loopw [3] (fun v W => ∃ left cnt Ko out, AS w mb w.heap.size es D last left cnt Ko out v W) (fun _ W => W.rangeLeft mb w.heap.size)
  case atStart => exact ⟨_, _, _, _, H0.out⟩
  case round =>
    obtain ⟨left, cnt, Ko, out, ha⟩ := hrel
    clear H0
    have Ha := Lib.hid ha
    clear ha
    go_wp2_with (at_next; refine wpList_next_ranges _ rfl _ rfl 3 pkeyed_int pinElem (Value.int .i64) (fun c : Int × Int => .agg #[.int .i64 c.1, .int .i64 c.2]) (fun key kl hk => by obtain ⟨x, e, _⟩ := Maps.keyOf_int_inv Try.underlying3 hk; exact ⟨x, e⟩) (fun v y hv => pinElem_form hv) mb w.heap.size es.length D _ _ rfl Ha.out.rg ?_ ?_)
    · intro hc0 hl0
      have H := Lib.hid (sort_lst Ha.out.lo (by have := nodup_len last.toNat out Ha.out.nd fun x hx => by { have := Hh.out.top x (Ha.out.inn x hx); omega }; omega))
      have Hl0 := Lib.hid hl0
      clear hc0 hl0
      go_wp2_with fail
      refine H.out.mono ?_
      rintro e w5 ⟨rfl, hl5, ho5⟩
      go_wp2_with fail
      go_ret
      obtain ⟨q1, q2⟩ := asc_sort Ha.out.nd
      refine ⟨_, _, Ko, rfl, hl5, fun b hb => ⟨(Ha.out.ko b hb).1, Nat.lt_of_lt_of_le (Ha.out.ko b hb).2.1 ho5.size⟩, q1, fun x => (q2 x).trans ⟨fun h => Ha.out.inn x h, fun h => ?_⟩, Ha.out.bel.trans (ho5.below (fun b hb => (Ha.out.ko b hb).1) Ha.out.bel.size)⟩
      exact (Ha.out.out x h (WalkArith.wf_i64 (by have := Hh.out.top x h; omega))).2 (Hl0.out _)
    · intro x c1 c2 kl y1 y2 w1 cnt1 hkey hlx hv hat hrg1 hlt hg1 hs1 hen
      obtain ⟨x', ex, rfl, wx⟩ := Maps.keyOf_int_inv Try.underlying3 hkey
      injection ex with _ ex
      subst ex
      have hxi : x ∈ es.map (·.1) := by
        have h1 := Hh2.out x wx
        rw [has_true_of_atKey hat] at h1
        exact of_decide_eq_true h1.symm
      have Hlx := Lib.hid hlx
      have Hxi := Lib.hid hxi
      have Hrg := Lib.hid hrg1
      have Hg1 := Lib.hid hg1
      have Hlt := Lib.hid hlt
      have Lo5 := Lib.hid ((Ha.out.lo.kept ((Kept.refl Ko wr).grown hg1 fun k e => by cases e; exact .inl fun e => (Ha.out.ko _ e).2.2.2 rfl)).kept ((Kept.refl Ko w1).alloc (.cells #[.int .i64 x] 3)))
      have Kx5 := Lib.hid (show ∀ b, Ko b → b < (w1.alloc (.cells #[.int .i64 x] 3)).heap.size from fun b hb => by have := (Ha.out.ko b hb).2.1; simp; omega)
      have Bs5 := Lib.hid (show w.heap.size ≤ (w1.alloc (.cells #[.int .i64 x] 3)).heap.size by have := Ha.out.bel.size; simp; omega)
      have Ln5 := Lib.hid (show out.length + 1 ≤ 1000000000 by have := nodup_len last.toNat out Ha.out.nd fun x hx => by { have := Hh.out.top x (Ha.out.inn x hx); omega }; omega)
      clear hkey hlx hv hat hrg1 hlt hg1 hs1 hxi
      go_wp2_with (at_builtin; refine wpList_append_lst Lo5.out Kx5.out Bs5.out Ln5.out rfl (.tmp 16) (.tmp 18) rfl rfl ⟨w1.heap.size, 0, none⟩ x 1 rfl (cell_new rfl rfl) ?_)
      intro vo' w6 Ko' hp
      have HP := Lib.hid hp
      clear hp
      go_wp2_with fail
      go_roundw
      case rel => exact ⟨_, _, _, _, Ha.out.push Hlx.out Hxi.out wx Hrg.out Hg1.out HP.out⟩
      case measure =>
        have h2 := Ha.out.push Hlx.out Hxi.out wx Hrg.out Hg1.out HP.out
        rw [h2.rg.left_eq, Ha.out.rg.left_eq]
        exact Hlt.out
set_option maxHeartbeats 1000000 in
theorem pall_nil (w : World) : Calls Try.prog 26 #[.pointer none] w fun e w' => e = .returned (.slice none 0 0) ∧ w = w' := by
  go_enter Try.func26, Try.ntmps26
  go_wp2
  go_ret
  exact ⟨rfl, rfl⟩
end
end Go.Proofs.Ytjndhjmbdhfclaa
