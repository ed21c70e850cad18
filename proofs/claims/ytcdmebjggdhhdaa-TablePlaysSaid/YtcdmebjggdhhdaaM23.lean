/- Arguments that are items, or lists of items; the first call that the statements on lists make. -/
import Derived.Test.YtcdmebjggdhhdaaM22
namespace Go.Proofs.Ytcdmebjggdhhdaa
open Go.ChangeShapes Go.WideShapes Go.ChangeAt Go.RowKit

def itemKs : List Lk := [.int .i64, .int .i64]
/-- The value reads as the items. -/
structure ItemsArg (w : World) (v : Value) (l : List (Int × Int)) : Prop where
  items : Items w v l
  wf : ∀ p, p ∈ l → (Lit.int .i64 p.1).wf = true ∧ (Lit.int .i64 p.2).wf = true
  len : l.length ≤ maxLen
theorem items_arg {w : World} {v : Value} {m : Nat} {row : Nat → List Value} (h : FlatArg w v itemKs m row) : ∃ l, ItemsArg w v l := by
  have hr : ∀ i, ∃ x : Int × Int, i < m → (row i)[0]? = some (.int .i64 x.1) ∧ (row i)[1]? = some (.int .i64 x.2) ∧ (Lit.int .i64 x.1).wf = true ∧ (Lit.int .i64 x.2).wf = true := by
    intro i
    by_cases hi : i < m
    · obtain ⟨o0, e0, a, rfl, wa⟩ := (h.ok i hi).get (j := 0) rfl
      obtain ⟨o1, e1, b, rfl, wb⟩ := (h.ok i hi).get (j := 1) rfl
      exact ⟨(a, b), fun _ => ⟨e0, e1, wa, wb⟩⟩
    · exact ⟨(0, 0), fun e => absurd e hi⟩
  obtain ⟨f, hf⟩ := Classical.axiomOfChoice hr
  have hl : ((List.range m).map f).length = m := by simp
  have hg : ∀ j, j < m → ((List.range m).map f).getD j (0, 0) = f j := fun j hj => by
    rw [List.getD_eq_getElem?_getD, List.getElem?_map, List.getElem?_range hj]; rfl
  refine ⟨(List.range m).map f, ⟨?_, ?_⟩, ?_, by rw [hl]; exact h.len⟩
  · rw [hl]; exact h.val
  · intro i hi
    rw [hl] at hi ⊢
    obtain ⟨b, off, c, e, hlt, hc, hcell⟩ := h.cell i hi
    refine ⟨b, off, c, e, hlt, hc, fun j hj => ?_⟩
    obtain ⟨e0, e1, _⟩ := hf j hj
    rw [hg j hj]
    have h0 := hcell j hj 0 (by decide)
    have h1 := hcell j hj 1 (by decide)
    exact ⟨h0.trans e0, h1.trans e1⟩
  · intro x hx
    obtain ⟨j, hj, rfl⟩ := List.mem_map.1 hx
    exact (hf j (List.mem_range.1 hj)).2.2
set_option maxRecDepth 100000 in
theorem item_arg {H : Type} {enc : TypeId × Value → H} {W : World} {v : Value} {d : DataW H} {ps : List MemPlace} {r : Reach} {b0 : Nat} {fs : Array Field} (ht : Try.prog.underlying 30 = some (.struct fs)) (hk : flat Try.prog 3 30 = some itemKs) (hv : Value.okWide Try.prog W r b0 30 v)
    (h : DataW.Trod enc Try.prog W 0 (fun _ => true) true 30 v d ps) : ∃ a b, v = .agg #[.int .i64 a, .int .i64 b] ∧ (Lit.int .i64 a).wf = true ∧ (Lit.int .i64 b).wf = true := by
  obtain ⟨cs, rfl, hsz⟩ := okWide_struct ht hv
  obtain ⟨fuel, hf⟩ := h
  have := flat_oks _ _ _ _ _ _ hk hf
  obtain ⟨l⟩ := cs
  cases this with
  | cons h1 t1 =>
    cases t1 with
    | cons h2 t2 =>
      cases t2 with
      | nil =>
        obtain ⟨a, rfl, wa⟩ := h1
        obtain ⟨b, rfl, wb⟩ := h2
        exact ⟨a, b, rfl, wa, wb⟩

section
variable {K : Nat → Prop} {p : Nat} {s : Ar} {B : Int} {L : List Int} {w : World}
theorem get_at {h a b : Int} {l : List (Int × Int)} {i : Nat} (hy : l[i]? = some (a, b)) (g : Good s B L) (hB : B ≤ 1000000000000) (hx : Lh s h l) (fm : h = 0 ∨ Firm s L h) (hl : l.length ≤ 1000) (hr : Rg l) (ha : Ars w K p s) :
    Calls Try.prog 20 #[.pointer (some ⟨p, 0, none⟩), .int .i64 h, .int .i64 i] w fun e w' => e = .returned (.tuple #[.agg #[.int .i64 a, .int .i64 b], .bool true]) ∧ Below w.heap.size w w' := by
  have hi : i < l.length := (List.getElem?_eq_some_iff.1 hy).1
  have := get_item g hB hx fm hl hr hi ha
  rwa [List.getD_eq_getElem?_getD, hy] at this
theorem len_at {h : Int} {n : Nat} {l : List (Int × Int)} (hn : l.length = n) (g : Good s B L) (hB : B ≤ 1000000000000) (hx : Lh s h l) (fm : h = 0 ∨ Firm s L h) (hl : n ≤ 1000) (ha : Ars w K p s) :
    Calls Try.prog 8 #[.pointer (some ⟨p, 0, none⟩), .int .i64 h] w fun r w' => r = .returned (.int .i64 n) ∧ Ars w' K p s ∧ Below w.heap.size w w' := by
  subst hn
  exact len_is g hB hx fm hl ha
end

theorem LMade.mono {s s' : Ar} {e' g : Int} {m m' : Nat} {l : List (Int × Int)} {L : List Int} (R : LMade s s' e' g m l L) (h : m ≤ m') : LMade s s' e' g m' l L := ⟨R.went.mono h, R.eok, R.gd, R.zero, R.lh⟩
theorem MadeG.mono {K : Nat → Prop} {p : Nat} {s : Ar} {L : List Int} {w w' : World} {m m' : Nat} {l : List (Int × Int)} {o : Ending} (h : MadeG K p s L w m l o w') (hm : m ≤ m') : MadeG K p s L w m' l o w' := by
  obtain ⟨g, s', e', a, b, c, R⟩ := h
  exact ⟨g, s', e', a, b, c, R.mono hm⟩
/-- So many nodes a change of a list of n items makes at most. -/
def lc (n : Nat) : Nat := if n ≤ 100 then 4 + 4 * bl n else 130
theorem lc_pos (n : Nat) : 1 ≤ lc n := by
  unfold lc
  split <;> omega
theorem Tr.Bal.lc {t : Tr} (h : t.Bal) (hl : t.len ≤ 80000) (F : Tr → Tr) {m : Nat} (hm : m ≤ 2) (i : Nat) : ccost F m t i ≤ Proofs.Ytcdmebjggdhhdaa.lc t.len := by
  unfold Proofs.Ytcdmebjggdhhdaa.lc
  split
  · exact h.cost ‹_› F hm i
  · have := ccost_le F m t i h
    have := h.high40 hl
    omega
section
variable {K : Nat → Prop} {p : Nat} {s : Ar} {L : List Int} {w : World} {h x y : Int} {l : List (Int × Int)} {i : Nat}
theorem linsert (g : Gd s L) (hL : L.length ≤ 200000) (hmb : s.made - s.busy ≤ 1000000000) (hx : Lh s h l) (fm : h = 0 ∨ Firm s L h) (hl : l.length ≤ 70000) (hi : i ≤ l.length) (rx : 0 ≤ x ∧ x ≤ 9223372036854775807) (ry : 0 ≤ y ∧ y ≤ 9223372036854775807) (ha : Ars w K p s) :
    Calls Try.prog 9 #[.pointer (some ⟨p, 0, none⟩), .int .i64 h, .int .i64 i, .agg #[.int .i64 x, .int .i64 y]] w (MadeG K p s L w (lc l.length) (insL l i (x, y))) := by
  obtain ⟨t, r, f, rfl⟩ := hx
  rw [Tr.len_list] at hl hi ⊢
  rcases f with rfl | f
  · obtain rfl : h = 0 := r
    obtain rfl : i = 0 := by
      have : i ≤ 0 := hi
      omega
    exact (insert_none g hL hmb rx ry ha).mono fun _ _ h => h.mono (lc_pos _)
  · have h1 := r.pos f.some
    have fm' : Firm s L h := fm.resolve_left (by omega)
    exact (insert_some g hL hmb (fm'.has (g.goodb (by omega) hmb) r) fm' f (by omega) hi rx ry ha).mono fun _ _ h => h.mono (f.lc (by omega) _ (Nat.le_refl _) _)
theorem ldelete (g : Gd s L) (hL : L.length ≤ 200000) (hmb : s.made - s.busy ≤ 1000000000) (hx : Lh s h l) (fm : h = 0 ∨ Firm s L h) (hl : l.length ≤ 70000) (hi : i < l.length) (ha : Ars w K p s) :
    Calls Try.prog 10 #[.pointer (some ⟨p, 0, none⟩), .int .i64 h, .int .i64 i] w (MadeG K p s L w (lc l.length) (delL l i)) := by
  obtain ⟨t, r, f, rfl⟩ := hx
  rw [Tr.len_list] at hl hi ⊢
  rcases f with rfl | f
  · exact absurd hi (Nat.not_lt_zero _)
  · have h1 := r.pos f.some
    have fm' : Firm s L h := fm.resolve_left (by omega)
    exact (delete_some g hL hmb (fm'.has (g.goodb (by omega) hmb) r) fm' f (by omega) hi ha).mono fun _ _ h => h.mono (f.lc (by omega) _ (Nat.zero_le _) _)
theorem lset (g : Gd s L) (hL : L.length ≤ 200000) (hmb : s.made - s.busy ≤ 1000000000) (hx : Lh s h l) (fm : h = 0 ∨ Firm s L h) (hl : l.length ≤ 70000) (hi : i < l.length) (rx : 0 ≤ x ∧ x ≤ 9223372036854775807) (ry : 0 ≤ y ∧ y ≤ 9223372036854775807) (ha : Ars w K p s) :
    Calls Try.prog 19 #[.pointer (some ⟨p, 0, none⟩), .int .i64 h, .int .i64 i, .agg #[.int .i64 x, .int .i64 y]] w (MadeG K p s L w (lc l.length) (setL l i (x, y))) := by
  obtain ⟨t, r, f, rfl⟩ := hx
  rw [Tr.len_list] at hl hi ⊢
  rcases f with rfl | f
  · exact absurd hi (Nat.not_lt_zero _)
  · have h1 := r.pos f.some
    have fm' : Firm s L h := fm.resolve_left (by omega)
    exact (set_some g hL hmb (fm'.has (g.goodb (by omega) hmb) r) fm' f (by omega) hi rx ry ha).mono fun _ _ h => h.mono (f.lc (by omega) _ (by omega) _)
/-- Where there is room nothing goes wrong. -/
theorem LMade.sure {s s' : Ar} {e' g : Int} {m : Nat} {l : List (Int × Int)} {L : List Int} (R : LMade s s' e' g m l L) (room : s.busy + (m : Nat) < s.n) : e' = 0 := by
  rcases R.eok with h | ⟨_, h⟩
  · exact h
  · obtain ⟨j, hj, _, hb⟩ := R.went.made
    have := R.went.ext.n
    omega
end
set_option maxRecDepth 100000 in
set_option maxHeartbeats 4000000 in
theorem alive10 (w : World) : Calls Try.prog 6 #[] w fun e w' => e = .returned (.bool true) ∧ Below w.heap.size w w' := by
  obtain ⟨K, hK⟩ : ∃ K : Nat → Prop, K = fun b => b < w.heap.size := ⟨_, rfl⟩
  have HK := Lib.hid hK
  clear hK
  go_enter Try.func6, Try.ntmps6
  go_wp2_with fail
  refine (new_yes 20 w (by decide) (by decide)).mono ?_
  rintro e w1 ⟨p, rfl, hb, ha⟩
  replace ha := ha K (fun _ h => by rw [HK.out] at h; exact h)
  have Hk := Lib.hid (Kept.of_below hb K)
  clear hb
  have H := Lib.hid (linsert (x := 3) (y := 4) (gd_new (n := 20) (by decide) (by decide)) (by decide) (by decide) (Lh.nil _) (.inl rfl) (by decide) (i := 0) (Nat.le_refl _) (by decide) (by decide) ha)
  clear ha
  go_wp2_with fail
  refine H.out.mono ?_
  clear H
  rintro e w2 ⟨h, s1, e1, rfl, ha, hk, R⟩
  replace Hk := Lib.hid (Hk.out.trans hk)
  obtain ⟨k1, a1, a2, a3⟩ := R.went.made
  have lc0 : lc 0 = 4 := by
    have e0 : bl 0 = 0 := by
      have := (bl_is 0).2 0
      refine Classical.byContradiction fun c => ?_
      have := this (by omega)
      omega
    show (if 0 ≤ 100 then 4 + 4 * bl 0 else 130) = 4
    rw [if_pos (by omega), e0]
  have a1' : k1 ≤ 4 := by rw [← lc0]; exact a1
  have b0 : (Ar.new 20).busy = 0 := rfl
  have m0 : (Ar.new 20).made = 0 := rfl
  have n0 : (Ar.new 20).n = 20 := rfl
  have n1 := R.went.ext.n
  obtain rfl := R.sure (by show (0 : Int) + (lc 0 : Nat) < 20; rw [lc0]; decide)
  have l1 := R.lh rfl
  have lc1 : lc 1 = 8 := by
    show (if 1 ≤ 100 then 4 + 4 * bl 1 else 130) = 8
    rw [if_pos (by omega), bl_val.1]
  have H := Lib.hid (lset (x := 5) (y := 0) (i := 0) R.gd (by simp) (by omega) l1 (.inr (.inl (by simp))) (by decide) (by decide) (by decide) (by decide) ha)
  have Hl1 := Lib.hid l1
  have N1 := Lib.hid (show s1.busy + ((lc 1 : Nat) : Int) < s1.n by rw [lc1]; omega)
  have MB1 := Lib.hid (show s1.made - s1.busy ≤ 1000000 by omega)
  clear ha hk R l1 a1 a2 a3 n1 b0 m0 n0 a1' lc0 lc1
  go_wp2_with fail
  refine H.out.mono ?_
  clear H
  rintro e w3 ⟨h2, s2, e2, rfl, ha, hk, R⟩
  replace Hk := Lib.hid (Hk.out.trans hk)
  obtain rfl := R.sure N1.out
  have Hl2 := Lib.hid (R.lh rfl)
  have x := R.went.ext
  have G := Lib.hid (R.gd.goodb (by simp) (by rw [R.went.md]; have := MB1.out; omega))
  have HG1 := fun w ha => Lib.hid (get_at (w := w) (K := K) (p := p) (i := 0) (a := 3) (b := 4) rfl G.out (by decide) (Hl1.out.ext x) (.inr (.inl (by simp))) (by decide) (fun q hq => by simp [insL] at hq; subst hq; decide) ha)
  have HG2 := fun w ha => Lib.hid (get_at (w := w) (K := K) (p := p) (i := 0) (a := 5) (b := 0) rfl G.out (by decide) Hl2.out (.inr (.inl (by simp))) (by decide) (fun q hq => by simp [setL, insL] at hq; subst hq; decide) ha)
  have HL := fun w ha => Lib.hid (len_at (w := w) (K := K) (p := p) (n := 1) rfl G.out (by decide) Hl2.out (.inr (.inl (by simp))) (by decide) ha)
  have Ha := Lib.hid ha
  clear ha hk R x
  go_wp2_with fail
  refine (HG1 _ Ha.out).out.mono ?_
  rintro e w4 ⟨rfl, hk4⟩
  have A4 := Lib.hid ((Ha.out.below hk4).alloc (.cells #[.int .i64 3, .int .i64 4] 30))
  have B4 := Lib.hid (hk4.alloc hk4.size (.cells #[.int .i64 3, .int .i64 4] 30))
  have c6 := heap_alloc_new w4 (.cells #[.int .i64 3, .int .i64 4] 30)
  clear hk4 HG1
  go_wp2_with fail
  refine (HG2 _ A4.out).out.mono ?_
  clear HG2
  rintro e w5 ⟨rfl, hk5⟩
  have C6 := Lib.hid ((hk5.block _ (lt_heap c6)).trans c6)
  have c8 := heap_alloc_new w5 (.cells #[.int .i64 5, .int .i64 0] 30)
  have A5 := Lib.hid ((A4.out.below hk5).alloc (.cells #[.int .i64 5, .int .i64 0] 30))
  have B5 := Lib.hid ((B4.out.trans (hk5.mono (by have := B4.out.size; simp at this ⊢; omega))).alloc (by have := B4.out.size; have := hk5.size; simp at *; omega) (.cells #[.int .i64 5, .int .i64 0] 30))
  have C62 := Lib.hid ((Below.heap_alloc w5 (.cells #[.int .i64 5, .int .i64 0] 30) _ (lt_heap C6.out)).trans C6.out)
  have lz := lt_heap C6.out
  have d0 : w5.cell? ⟨w4.heap.size, 0, none⟩ = some (.int .i64 3) := cell_of_row _ _ _ _ _ _ C6.out
  have d1 : w5.cell? ⟨w4.heap.size, 1, none⟩ = some (.int .i64 4) := cell_of_row _ _ _ _ _ _ C6.out
  clear hk5 c6 c8
  go_wp2_with fail
  refine (HL _ A5.out).out.mono ?_
  rintro e w7 ⟨rfl, _, hk7⟩
  go_wp2_with fail
  go_ret
  exact ⟨rfl, (Hk.out.below fun b hb => by rw [HK.out]; exact hb).trans ((B5.out.trans (hk7.mono B5.out.size)).mono Hk.out.size)⟩
end Go.Proofs.Ytcdmebjggdhhdaa
