/- All items of a list; whether two lists of items are the same. -/
import Derived.Test.YtcdmebjggdhhdaaM21
import Derived.Test.YtcdmebjggdhhdaaFlat
namespace Go.Proofs.Ytcdmebjggdhhdaa
open Go.RowKit

section
variable {K : Nat → Prop} {p : Nat} {s : Ar} {B : Int} {L : List Int} {w : World}
theorem Lh.has {h : Int} {l : List (Int × Int)} (x : Lh s h l) (g : Good s B L) (fm : h = 0 ∨ Firm s L h) : ∃ t, Has s h t ∧ t.Fine ∧ t.list = l ∧ t.len = l.length := by
  obtain ⟨t, r, f, rfl⟩ := x
  refine ⟨t, ?_, f, rfl, (Tr.len_list t).symm⟩
  rcases fm with rfl | fm
  · exact ⟨r, .inl rfl⟩
  · exact fm.has g r
theorem len_is {h : Int} {l : List (Int × Int)} (g : Good s B L) (hB : B ≤ 1000000000000) (hx : Lh s h l) (fm : h = 0 ∨ Firm s L h) (hl : l.length ≤ 1000) (ha : Ars w K p s) :
    Calls Try.prog 8 #[.pointer (some ⟨p, 0, none⟩), .int .i64 h] w fun r w' => r = .returned (.int .i64 l.length) ∧ Ars w' K p s ∧ Below w.heap.size w w' := by
  obtain ⟨t, x, f, e1, e2⟩ := hx.has g fm
  rw [← e2] at hl ⊢
  exact llen_is g (by omega) x (by omega) ha
theorem get_item {h : Int} {l : List (Int × Int)} {i : Nat} (g : Good s B L) (hB : B ≤ 1000000000000) (hx : Lh s h l) (fm : h = 0 ∨ Firm s L h) (hl : l.length ≤ 1000) (hr : Rg l) (hi : i < l.length) (ha : Ars w K p s) :
    Calls Try.prog 20 #[.pointer (some ⟨p, 0, none⟩), .int .i64 h, .int .i64 i] w fun e w' => e = .returned (.tuple #[.agg #[.int .i64 (l.getD i (0, 0)).1, .int .i64 (l.getD i (0, 0)).2], .bool true]) ∧ Below w.heap.size w w' := by
  obtain ⟨t, x, f, e1, e2⟩ := hx.has g fm
  obtain ⟨ra, rb⟩ := hr.at_ hi
  rcases f with rfl | f
  · rw [← e2] at hi; exact absurd hi (Nat.not_lt_zero _)
  · exact get_some g hB x f (by omega) (by omega) (by rw [e1]) ra rb ha
set_option maxHeartbeats 1000000 in
theorem get_no {h i : Int} {l : List (Int × Int)} (g : Good s B L) (hB : B ≤ 1000000000000) (hx : Lh s h l) (fm : h = 0 ∨ Firm s L h) (hl : l.length ≤ 1000) (hi : i < 0 ∨ l.length ≤ i) (ha : Ars w K p s) :
    Calls Try.prog 20 #[.pointer (some ⟨p, 0, none⟩), .int .i64 h, .int .i64 i] w fun e w' => e = .returned (.tuple #[.agg #[.int .i64 0, .int .i64 0], .bool false]) ∧ Below w.heap.size w w' := by
  have HL := fun w ha => Lib.hid (len_is (w := w) (K := K) (p := p) g hB hx fm hl ha)
  have Ha := Lib.hid ha
  clear ha g hx fm
  generalize l.length = n at *
  by_cases h0 : i < 0
  · clear hi HL
    go_enter Try.func20, Try.ntmps20
    go_wp2_with fail
    exact bodyPost_ret (v := .tuple #[.agg #[.int .i64 0, .int .i64 0], .bool false]) (by simp [results, Try.results20, go_sem]) rfl ⟨rfl, (Below.refl _ _).alloc (Nat.le_refl _) _⟩
  · have h1 : (n : Int) ≤ i := by omega
    clear hi
    go_enter Try.func20, Try.ntmps20
    go_wp2_with fail
    have hres := heap_alloc_new w (.cells #[.int .i64 0, .int .i64 0] 30)
    refine (HL _ (Ha.out.alloc _)).out.mono ?_
    clear HL
    rintro e w1 ⟨rfl, ha1, hk1⟩
    have hres1 := (hk1.block _ (by simp)).trans hres
    have b1 := Lib.hid (((Below.refl w.heap.size w).alloc (Nat.le_refl _) (.cells #[.int .i64 0, .int .i64 0] 30)).trans (hk1.mono (by simp)))
    have f0 : w1.cell? ⟨w.heap.size, 0, none⟩ = some (.int .i64 0) := cell_of_row _ _ _ _ _ _ hres1
    have f1 : w1.cell? ⟨w.heap.size, 1, none⟩ = some (.int .i64 0) := cell_of_row _ _ _ _ _ _ hres1
    have fz0 : w1.frozen? ⟨w.heap.size, 0, none⟩ = false := frozen_of_row _ _ _ _ _ hres1
    have fz1 : w1.frozen? ⟨w.heap.size, 1, none⟩ = false := frozen_of_row _ _ _ _ _ hres1
    clear hres hk1 ha1 hres1
    go_wp2_with fail
    exact bodyPost_ret (v := .tuple #[.agg #[.int .i64 0, .int .i64 0], .bool false]) (by simp [results, Try.results20, go_sem, f0, f1]) rfl ⟨rfl, (b1.out.setCell (Nat.le_refl _) _).setCell (Nat.le_refl _) _⟩
end

def itemCells (l : List (Int × Int)) : List Value := l.flatMap fun x => [.int .i64 x.1, .int .i64 x.2]
theorem itemCells_len (l : List (Int × Int)) : (itemCells l).length = l.length * 2 := by
  induction l with
  | nil => rfl
  | cons a r ih => simp only [itemCells, List.flatMap_cons, List.length_append, List.length_cons, List.length_nil] at ih ⊢; omega
theorem itemCells_at : ∀ (l : List (Int × Int)) {i : Nat}, i < l.length → (itemCells l)[i * 2]? = some (.int .i64 (l.getD i (0, 0)).1) ∧ (itemCells l)[i * 2 + 1]? = some (.int .i64 (l.getD i (0, 0)).2)
  | [], i, h => absurd h (Nat.not_lt_zero _)
  | a :: r, 0, _ => ⟨rfl, rfl⟩
  | a :: r, i + 1, h => by
    have := itemCells_at r (i := i) (by simpa using h)
    rw [show (i + 1) * 2 = i * 2 + 2 by omega]
    exact this
theorem itemCells_snoc (l : List (Int × Int)) (x : Int × Int) : itemCells (l ++ [x]) = itemCells l ++ [.int .i64 x.1, .int .i64 x.2] := by simp [itemCells]
/-- The slice holds the items. -/
structure Items (w : World) (v : Value) (l : List (Int × Int)) : Prop where
  val : ∃ a c, v = .slice a l.length c
  cell : ∀ i, i < l.length → ∃ b off c, v = .slice (some ⟨b, off, none⟩) l.length c ∧ b < w.heap.size ∧ l.length ≤ c ∧ ∀ j, j < l.length → w.cell? ⟨b, off + j * 2, none⟩ = some (.int .i64 (l.getD j (0, 0)).1) ∧ w.cell? ⟨b, off + j * 2 + 1, none⟩ = some (.int .i64 (l.getD j (0, 0)).2)
theorem Items.below {w w' : World} {v : Value} {l : List (Int × Int)} (h : Items w v l) (hb : Below w.heap.size w w') : Items w' v l :=
  ⟨h.val, fun i hi => by
    obtain ⟨b, off, c, e, hlt, hc, hj⟩ := h.cell i hi
    exact ⟨b, off, c, e, Nat.lt_of_lt_of_le hlt hb.size, hc, fun j hj' => ⟨(hb.cell (p := ⟨b, _, none⟩) hlt).trans (hj j hj').1, (hb.cell (p := ⟨b, _, none⟩) hlt).trans (hj j hj').2⟩⟩⟩
theorem Items.kept {K : Nat → Prop} {w w' : World} {v : Value} {l : List (Int × Int)} (h : Items w v l) (hk : Kept K w w') (hK : ∀ b, v.ownBlock = some b → K b) : Items w' v l :=
  ⟨h.val, fun i hi => by
    obtain ⟨b, off, c, e, hlt, hc, hj⟩ := h.cell i hi
    have hKb := hK b (by rw [e]; rfl)
    exact ⟨b, off, c, e, Nat.lt_of_lt_of_le hlt hk.size, hc, fun j hj' => ⟨(hk.cell hlt hKb).trans (hj j hj').1, (hk.cell hlt hKb).trans (hj j hj').2⟩⟩⟩
theorem Items.own {w : World} {B : Nat} {v : Value} {l : List (Int × Int)} (h : w.ownsRow B 30 2 v l.length (itemCells l)) : Items w v l := by
  rcases h.2 with ⟨rfl, e⟩ | ⟨g, cap, cur, rfl, hg, hh, hl, hm, hs, ht⟩
  · have : l = [] := List.length_eq_zero_iff.1 e
    subst this
    exact ⟨⟨_, _, rfl⟩, fun i hi => absurd hi (Nat.not_lt_zero _)⟩
  · have hc : ∀ k, k < l.length * 2 → w.cell? ⟨g, k, none⟩ = (itemCells l)[k]? := fun k hk => by
      rw [cell_of_row _ _ _ _ _ _ hh, ← ht, List.getElem?_take, if_pos hk, Array.getElem?_toList]
    refine ⟨⟨_, _, rfl⟩, fun i hi => ⟨g, 0, cap, rfl, lt_heap hh, hl, fun j hj => ?_⟩⟩
    obtain ⟨e1, e2⟩ := itemCells_at l hj
    rw [Nat.zero_add]
    exact ⟨(hc _ (by omega)).trans e1, (hc _ (by omega)).trans e2⟩
theorem info_item : (Try.prog.info? 30).map (fun i => (i.zero, i.size, i.bytes)) = some (some (.agg #[.int .i64 0, .int .i64 0]), 2, 16) := by kernel_rfl
theorem owns_below {w w' : World} {B size n : Nat} {e : TypeId} {v : Value} {cs : List Value} (h : w.ownsRow B e size v n cs) (hb : Below w.heap.size w w') : w'.ownsRow B e size v n cs := by
  refine ⟨h.1, ?_⟩
  rcases h.2 with h2 | ⟨g, cap, cur, rfl, hg, hh, r⟩
  · exact .inl h2
  · exact .inr ⟨g, cap, cur, rfl, hg, (hb.block _ (lt_heap hh)).trans hh, r⟩
theorem owns_block {w : World} {B size n : Nat} {e : TypeId} {v : Value} {cs : List Value} (h : w.ownsRow B e size v n cs) : ∀ b, v.ownBlock = some b → B ≤ b := by
  intro b hb
  rcases h.2 with ⟨rfl, _⟩ | ⟨g, cap, cur, rfl, hg, _⟩
  · cases hb
  · cases hb; exact hg
theorem take_nextD {α : Type} {xs : List α} {t : Nat} {d : α} (ht : t < xs.length) : xs.take (t + 1) = xs.take t ++ [xs.getD t d] := by
  rw [List.take_add_one, List.getElem?_eq_getElem ht, List.getD_eq_getElem?_getD, List.getElem?_eq_getElem ht]
  rfl
/-- One more item is appended to a slice of our own. -/
theorem wpList_append_item {w : World} {B : Nat} {v : Value} {l : List (Int × Int)} (hO : w.ownsRow B 30 2 v l.length (itemCells l)) (hB : B ≤ w.heap.size) (hlen : l.length + 1 ≤ 1000000000)
    {ops : Array Oper} {rest : List Oper} {o : Oper} {a : Act} {Q : Exit → Act → World → Prop}
    (hg : o.guard = none) (s x : Operand) (hop : o.op = Op.call { callee := Callee.builtin Builtin.append, args := #[s, x], argTypes := #[42, 42] })
    (hs : a.eval s = v) (b : Nat) (y : Int × Int) (c : Nat) (hx : a.eval x = .slice (some ⟨b, 0, none⟩) 1 c) (hc0 : w.cell? ⟨b, 0, none⟩ = some (.int .i64 y.1)) (hc1 : w.cell? ⟨b, 1, none⟩ = some (.int .i64 y.2))
    (h : ∀ v' w', w'.ownsRow B 30 2 v' (l.length + 1) (itemCells (l ++ [y])) → w.grownBy w' v.ownBlock → wpList Try.prog ops Q rest (a.put o.dst v') w') : wpList Try.prog ops Q (o :: rest) a w := by
  obtain ⟨i0, hi, hz0, hz1, hz2⟩ := info_parts info_item
  obtain ⟨v', w', hrun, r1, r2, _⟩ := run_append_own (P := Try.prog) w B 42 o.type 30 i0 (.agg #[.int .i64 0, .int .i64 0]) 2 16 Try.underlying42 hi hz0 hz1 hz2 rfl (by decide) v l.length (itemCells l) hO ⟨b, 0, none⟩ 1 c [.int .i64 y.1, .int .i64 y.2] rfl
    (fun j u hj => by
      match j, hj with
      | 0, hj => simp at hj; subst hj; simpa [Addr.add] using hc0
      | 1, hj => simp at hj; subst hj; simpa [Addr.add] using hc1)
    (fun u hu => by simp at hu; rcases hu with rfl | rfl <;> rfl) (by unfold maxLen; omega) (by omega) hB
  refine wpList_plain hg fun K' hK' => ?_
  unfold Oper.wp
  simp [execOp, hop, resolve, invoke, builtin, hs, hx, hrun, Result.andThen]
  exact hK' _ _ (h v' w' (by rw [itemCells_snoc]; exact r1) r2)
section
variable {K : Nat → Prop} {p : Nat} {s : Ar} {B : Int} {L : List Int} {w : World}
set_option maxRecDepth 100000 in
set_option maxHeartbeats 4000000 in
theorem all_is {h : Int} {l : List (Int × Int)} (g : Good s B L) (hB : B ≤ 1000000000000) (hx : Lh s h l) (fm : h = 0 ∨ Firm s L h) (hl : l.length ≤ 1000) (hr : Rg l) (ha : Ars w K p s) :
    Calls Try.prog 22 #[.pointer (some ⟨p, 0, none⟩), .int .i64 h] w fun e w' => ∃ v, e = .returned v ∧ w'.ownsRow w.heap.size 30 2 v l.length (itemCells l) ∧ Below w.heap.size w w' := by
  have HL := Lib.hid (len_is (w := w) (K := K) (p := p) g hB hx fm hl ha)
  have HG := Lib.hid (fun (i : Nat) (hi : i < l.length) W (ha : Ars W K p s) => get_item (w := W) (i := i) g hB hx fm hl hr hi ha)
  have Ha := Lib.hid ha
  obtain ⟨n, hn⟩ : ∃ n, Hid (l.length = n) := ⟨_, rfl⟩
  rw [hn.out] at HL hl
  clear ha g hx fm hr
  go_enter Try.func22, Try.ntmps22
  go_wp2_with fail
  refine HL.out.mono ?_
  clear HL
  rintro e w1 ⟨rfl, ha1, hk1⟩
  have B1 := Lib.hid hk1
  clear ha1 hk1
  go_wp2_with fail
  go_loopw [5, 12] (fun v i W => ∃ j : Nat, i = .int .i64 j ∧ j ≤ n ∧ W.ownsRow w.heap.size 30 2 v j (itemCells (l.take j)) ∧ Below w.heap.size w W) (fun _ i _ => n - (intOf i).toNat)
  case atStart => exact ⟨0, rfl, by omega, World.ownsRow_nil _ _ _ _, B1.out⟩
  case round =>
    obtain ⟨j, rfl, j1, ho, hb⟩ := hrel
    have Ho := Lib.hid ho
    have Hb := Lib.hid hb
    obtain ⟨v, rfl⟩ : ∃ v : Value, v = u5 := ⟨_, rfl⟩
    clear ho hb
    by_cases hlt : j < n
    · have hlj : j < l.length := by rw [hn.out]; exact hlt
      have H := Lib.hid (HG.out j hlj wr (Ha.out.below Hb.out))
      have ht := Lib.hid (take_nextD (d := ((0 : Int), (0 : Int))) hlj)
      have htl := Lib.hid (show (l.take j).length = j by rw [List.length_take]; omega)
      clear hlj
      generalize l.getD j (0, 0) = y at *
      go_wp2_with fail
      refine H.out.mono ?_
      clear H
      rintro e w2 ⟨rfl, hk2⟩
      have B2 := Lib.hid (Hb.out.trans (hk2.mono Hb.out.size))
      have O2 := owns_below Ho.out hk2
      clear hk2
      have O3 := Lib.hid (owns_below O2 (((Below.refl w2.heap.size w2).alloc (Nat.le_refl _) (.cells #[.int .i64 y.1, .int .i64 y.2] 30)).alloc (by simp) (.cells #[.int .i64 y.1, .int .i64 y.2] 30)))
      have B3 := Lib.hid ((B2.out.alloc B2.out.size (.cells #[.int .i64 y.1, .int .i64 y.2] 30)).alloc (by have := B2.out.size; simp; omega) (.cells #[.int .i64 y.1, .int .i64 y.2] 30))
      have O4 : Hid (World.ownsRow (((w2.alloc (.cells #[.int .i64 y.1, .int .i64 y.2] 30)).alloc (.cells #[.int .i64 y.1, .int .i64 y.2] 30))) w.heap.size 30 2 v (l.take j).length (itemCells (l.take j))) := by show World.ownsRow _ _ _ _ _ _ _; rw [htl.out]; exact O3.out
      clear O2
      go_wp2_with (at_builtin; refine wpList_append_item O4.out B3.out.size (by rw [htl.out]; omega) rfl (.tmp 22) (.tmp 24) rfl rfl (w2.heap.size + 1) y 1 rfl (cell_new (by simp) rfl) (cell_new (by simp) rfl) ?_)
      intro v' w5 ho5 hg5
      have O5 := Lib.hid (show w5.ownsRow w.heap.size 30 2 v' (j + 1) (itemCells (l.take (j + 1))) by rw [ht.out]; have hmin : min j l.length = j := by { rw [hn.out]; omega }; rw [hmin] at ho5; exact ho5)
      have B5 := Lib.hid (B3.out.grown hg5 B3.out.size fun k hk => owns_block O3.out k hk)
      clear ho5 hg5
      go_wp2_with fail
      go_roundw
      case rel => exact ⟨j + 1, by go_num, by omega, O5.out, B5.out⟩
      case measure => simp [intOf]; omega
    · obtain rfl : n = j := by omega
      go_wp2_with fail
      go_ret
      exact ⟨v, rfl, by have := Ho.out; rwa [← hn.out, List.take_length] at this, Hb.out⟩
set_option maxRecDepth 100000 in
set_option maxHeartbeats 4000000 in
theorem same_true {va vb : Value} {l : List (Int × Int)} (h1 : Items w va l) (h2 : Items w vb l) (hl : l.length ≤ 1000) :
    Calls Try.prog 21 #[va, vb] w fun e w' => e = .returned (.bool true) ∧ Below w.heap.size w w' := by
  obtain ⟨a1, c1, rfl⟩ := h1.val
  obtain ⟨a2, c2, rfl⟩ := h2.val
  have H1 := Lib.hid h1
  have H2 := Lib.hid h2
  clear h1 h2
  obtain ⟨n, hn⟩ : ∃ n, l.length = n := ⟨_, rfl⟩
  have Hn := Lib.hid hn
  rw [hn] at hl ⊢
  clear hn
  go_enter Try.func21, Try.ntmps21
  go_wp2_with fail
  go_loopw [13] (fun i W => ∃ j : Nat, i = .int .i64 j ∧ j ≤ n ∧ Below w.heap.size w W) (fun i _ => n - (intOf i).toNat)
  case atStart => exact ⟨0, rfl, by omega, Below.refl _ _⟩
  case round =>
    obtain ⟨j, rfl, j1, hb⟩ := hrel
    have Hb := Lib.hid hb
    by_cases hlt : j < n
    · obtain ⟨b1, o1, d1, e1, q1, m1, x1⟩ := H1.out.cell j (by rw [Hn.out]; exact hlt)
      obtain ⟨b2, o2, d2, e2, q2, m2, x2⟩ := H2.out.cell j (by rw [Hn.out]; exact hlt)
      rw [Hn.out] at m1 m2
      obtain ⟨x10, x11⟩ := x1 j (by rw [Hn.out]; exact hlt)
      obtain ⟨x20, x21⟩ := x2 j (by rw [Hn.out]; exact hlt)
      cases e1
      cases e2
      generalize l.getD j (0, 0) = y at *
      have y10 : wr.cell? ⟨b1, o1 + j * 2, none⟩ = some (.int .i64 y.1) := (hb.cell (p := ⟨b1, _, none⟩) q1).trans x10
      have y11 : wr.cell? ⟨b1, o1 + j * 2 + 1, none⟩ = some (.int .i64 y.2) := (hb.cell (p := ⟨b1, _, none⟩) q1).trans x11
      have y20 : wr.cell? ⟨b2, o2 + j * 2, none⟩ = some (.int .i64 y.1) := (hb.cell (p := ⟨b2, _, none⟩) q2).trans x20
      have y21 : wr.cell? ⟨b2, o2 + j * 2 + 1, none⟩ = some (.int .i64 y.2) := (hb.cell (p := ⟨b2, _, none⟩) q2).trans x21
      have i1 : (j : Int) < (n : Int) := by omega
      clear x1 x2 x10 x11 x20 x21 hb
      go_wp2_with fail
      go_quiet (fail)
      go_wp2_with fail
      go_roundw
      case rel => exact ⟨j + 1, by go_num, by omega, ⟨Hb.out.os, Hb.out.tape, Hb.out.output, Hb.out.size, Hb.out.block⟩⟩
      case measure => simp [intOf]; omega
    · go_wp2_with fail
      go_ret
      exact ⟨rfl, Hb.out⟩
end
end Go.Proofs.Ytcdmebjggdhhdaa
