/- A node is counted once less; where nobody has it any more, it waits. -/
import Derived.Test.YtcdmebjggdhhdaaA1
namespace Go.Proofs.Ytcdmebjggdhhdaa
open Go.RowKit
set_option maxHeartbeats 400000 in
theorem drop_no (K : Nat → Prop) (p : Nat) (s : Ar) (w : World) (i : Int) (h : Ars w K p s) (hn : s.n ≤ 6000) (h0 : s.count i = 0) :
    Calls Try.prog 11 #[.pointer (some ⟨p, 0, none⟩), .int .i64 i] w fun e w' => e = .returned (.int .i64 9) ∧ w = w' := by
  have hc := count_any K p s i w h hn
  rw [h0] at hc
  have Hs := Lib.hid hc
  clear hc h h0
  go_enter Try.func11, Try.ntmps11
  go_wp2_with (go_at_call 39; refine Hs.out.mono ?_; rintro e w' ⟨rfl, rfl⟩)
  go_ret
  exact ⟨rfl, rfl⟩
set_option maxHeartbeats 400000 in
theorem drop_less (K : Nat → Prop) (p : Nat) (s : Ar) (w : World) (i : Int) (h : Ars w K p s) (hn : s.n ≤ 6000) (h0 : s.count i ≠ 0) (h1 : s.c i.toNat ≠ 1) (hB : 0 ≤ s.c i.toNat ∧ s.c i.toNat ≤ 1000000000000) :
    Calls Try.prog 11 #[.pointer (some ⟨p, 0, none⟩), .int .i64 i] w fun e w' => e = .returned (.int .i64 0) ∧ Ars w' K p { s with c := upd s.c i.toNat (s.c i.toNat - 1) } ∧ Kept K w w' := by
  have hc := count_any K p s i w h hn
  obtain ⟨i1, i2, e0⟩ := count_in h0
  rw [e0] at hc
  have h0' : (s.c i.toNat == 0) = false := by rw [← e0]; simpa using h0
  have h1' : (s.c i.toNat - 1 == 0) = false := by simp; omega
  have Hs := Lib.hid hc
  obtain ⟨N, C, U, wv, h⟩ := h
  have c1 := h.c1
  have cc := h.count (i := i.toNat) (by omega)
  have cf := h.fC i.toNat
  obtain ⟨b1, b2⟩ := hB
  have b3 := blk_ne h.hp h.hC (by decide)
  have H := Lib.hid h
  clear h hc h0 e0
  have H1 := Lib.hid h1
  clear h1
  go_enter Try.func11, Try.ntmps11
  go_wp2_with (go_at_call 39; refine Hs.out.mono ?_; rintro e w' ⟨rfl, rfl⟩)
  go_ret
  exact ⟨rfl, (H.out.setC _ _).ars, (Kept.refl _ _).setCell (.inl H.out.kC) _⟩
/-- One more waits: there was room. -/
theorem Wait.room {w' : World} {K : Nat → Prop} {C g off cap : Nat} {cs : Array Value} {l : List Int} {i : Int} (n1 : g ≠ C) (n2 : ¬ K g) (n4 : l.length + 1 ≤ cap) (n5 : off + cap ≤ cs.size) (n6 : cap ≤ maxLen)
    (n7 : ∀ j, j < l.length → cs[off + j]? = some (.int .i64 (l.getD j 0))) (hw : w'.heap[g]? = some (.cells (cs.setIfInBounds (off + l.length) (.int .i64 i)) 3 (0, 0))) : Wait w' K C (.slice (some ⟨g, off, none⟩) (l.length + 1) cap) (l ++ [i]) := by
  refine .inr ⟨g, off, cap, _, by simp, n1, n2, hw, by simpa using n4, by simpa using n5, n6, fun j hj => ?_⟩
  simp at hj
  rw [Array.getElem?_setIfInBounds]
  by_cases e : j = l.length
  · subst e
    rw [if_pos rfl, if_pos (by omega)]
    simp
  · rw [if_neg (by omega), n7 j (by omega)]
    simp [List.getElem?_append, show j < l.length by omega]
/-- One more waits: the list has moved. -/
theorem Wait.grown {w' : World} {K : Nat → Prop} {C b : Nat} {v : Value} {l : List Int} (ho : w'.ownsRow b 3 1 v l.length (l.map (Value.int .i64))) (hb : C < b) (hK : ∀ k, K k → k < b) : Wait w' K C v l := by
  obtain ⟨h1, h2⟩ := ho
  rcases h2 with ⟨rfl, h2⟩ | ⟨g, cap, cur, rfl, hg, hh, hl, hm, hc, ht⟩
  · exact .inl ⟨rfl, List.length_eq_zero_iff.1 h2⟩
  · refine .inr ⟨g, 0, cap, cur, rfl, by omega, fun e => by have := hK g e; omega, hh, hl, by omega, hm, fun j hj => ?_⟩
    have e : (cur.toList.take (l.length * 1))[j]? = (l.map (Value.int .i64))[j]? := by rw [ht]
    rw [List.getElem?_take, if_pos (by omega)] at e
    rw [Nat.zero_add, ← Array.getElem?_toList, e]
    simp [hj]

theorem ArsAt.push {w : World} {K : Nat → Prop} {p : Nat} {s : Ar} {N C U : Nat} {wv : Value} (h : ArsAt w K p s N C U wv) {g off cap : Nat} {cs : Array Value} {i : Int} (n1 : g ≠ C) (n2 : ¬ K g) (n3 : w.heap[g]? = some (.cells cs 3 (0, 0))) (n4 : s.wt.length + 1 ≤ cap) (n5 : off + cap ≤ cs.size) (n6 : cap ≤ maxLen)
    (n7 : ∀ j, j < s.wt.length → cs[off + j]? = some (.int .i64 (s.wt.getD j 0))) :
    ArsAt ((w.setCell ⟨g, off + s.wt.length, none⟩ (.int .i64 i)).setCell ⟨p, 3, none⟩ (.slice (some ⟨g, off, none⟩) (s.wt.length + 1) cap)) K p { s with wt := s.wt ++ [i] } N C U (.slice (some ⟨g, off, none⟩) (s.wt.length + 1) cap) := by
  have e1 := blk_ne h.hN h.hp (by decide)
  have e2 := blk_ne h.hC h.hp (by decide)
  have e3 := blk_ne h.hU h.hp (by decide)
  have e4 := blk_ne n3 h.hp (by decide)
  have e5 := blk_ne h.hN n3 (by decide)
  have e6 := blk_ne h.hU n3 (by decide)
  refine ⟨?_, (heap_setCell_other _ _ _ _ e1).trans ((heap_setCell_other _ _ _ _ e5).trans h.hN), (heap_setCell_other _ _ _ _ e2).trans ((heap_setCell_other _ _ _ _ (Ne.symm n1)).trans h.hC), (heap_setCell_other _ _ _ _ e3).trans ((heap_setCell_other _ _ _ _ e6).trans h.hU), h.kp, h.kN, h.kC, h.kU, ?_, by simpa [World.setCell] using h.kK⟩
  · rw [heap_setCell_same _ _ _ _ _ _ ((heap_setCell_other _ _ _ _ (Ne.symm e4)).trans h.hp)]
    rfl
  · refine Wait.room n1 n2 n4 n5 n6 n7 ?_
    rw [heap_setCell_other _ _ _ _ e4]
    exact heap_setCell_same _ _ _ _ _ _ n3

set_option maxHeartbeats 1000000 in
theorem drop_last (K : Nat → Prop) (p : Nat) (s : Ar) (w : World) (i : Int) (h : Ars w K p s) (hn : s.n ≤ 6000) (h0 : s.count i ≠ 0) (h1 : s.c i.toNat = 1) (hl : s.wt.length ≤ 6000) :
    Calls Try.prog 11 #[.pointer (some ⟨p, 0, none⟩), .int .i64 i] w fun e w' => e = .returned (.int .i64 0) ∧ Ars w' K p { s with c := upd s.c i.toNat 0, wt := s.wt ++ [i] } ∧ Kept K w w' := by
  obtain ⟨i0, hi, hz0, hz1, hz2⟩ := info_parts info_int
  have hc := count_any K p s i w h hn
  obtain ⟨i1, i2, e0⟩ := count_in h0
  rw [e0, h1] at hc
  have Hs := Lib.hid hc
  obtain ⟨N, C, U, wv, h⟩ := h
  have c1 := h.c1
  have cc := h.count (i := i.toNat) (by omega)
  rw [h1] at cc
  have cf := h.fC i.toNat
  have b3 := blk_ne h.hp h.hC (by decide)
  have b4 := blk_ne h.hC h.hp (by decide)
  have c3 := h.c3
  have f3 := h.f 3
  have H' := Lib.hid (h.setC i.toNat 0)
  have H := Lib.hid h
  have hps := lt_heap h.hp
  have hCs := lt_heap h.hC
  have W' := h.hW
  clear h hc h0 e0 h1
  rcases W' with ⟨rfl, hwt⟩ | ⟨g, off, cap, cs, rfl, n1, n2, n3, n4, n5, n6, n7⟩
  · have HW := Lib.hid hwt
    clear hwt
    go_enter Try.func11, Try.ntmps11
    go_wp2_with (first | (at_builtin; refine wpList_append_grows _ rfl (.tmp 30) (.tmp 32) 35 rfl 3 i0 (.int .i64 0) 1 8 Try.underlying35 hi hz0 hz1 hz2 rfl (by decide) none 0 0 [] rfl ?hnone rfl ?olds ⟨w.heap.size, 0, none⟩ 1 1 [.int .i64 i] rfl rfl ?c1 ?c2 ?hg ?b1 ?b2 ?grow) | (go_at_call 39; refine Hs.out.mono ?_; rintro e w' ⟨rfl, rfl⟩))
    case olds => intro b hb; cases hb
    case c1 => intro j u hj; match j, hj with | 0, hj => simp at hj; subst hj; exact cell_new (by simp) rfl
    case c2 => intro u hu; simp at hu; subst hu; rfl
    case hg => omega
    case b1 => unfold maxLen; omega
    case b2 => omega
    case grow =>
      intro v' w1 hown hgrow
      obtain ⟨g, cap', rfl⟩ : ∃ g cap', v' = .slice (some ⟨g, 0, none⟩) 1 cap' := by
        rcases hown.2 with ⟨_, h⟩ | ⟨g, cap', _, h, _⟩
        · omega
        · exact ⟨g, cap', h⟩
      have hbel : Below (w.heap.size + 1) ((w.setCell ⟨C, i.toNat, none⟩ (.int .i64 0)).alloc (.cells #[.int .i64 i] 3)) w1 := (Below.refl _ _).grown hgrow (by simp) (fun k h => by cases h)
      have k3 : w1.cell? ⟨p, 3, none⟩ = some (.slice none 0 0) := (hbel.cell (p := ⟨p, 3, none⟩) (by simp; omega)).trans (H'.out.alloc _).c3
      have e3 : w1.frozen? ⟨p, 3, none⟩ = false := (hbel.frozen (p := ⟨p, 3, none⟩) (by simp; omega)).trans ((H'.out.alloc _).f 3)
      have HB := Lib.hid hbel
      have HO := Lib.hid hown
      clear hbel hown hgrow
      go_wp2
      go_ret
      have hb := HB.out
      have ho := HO.out
      refine ⟨rfl, ?_, ?_⟩
      · have A1 := (H'.out.alloc (.cells #[.int .i64 i] 3)).kept (w' := w1) hb.size fun b hlt _ => hb.block b (by simpa [World.setCell] using hlt)
        refine (A1.setWait (l := s.wt ++ [i]) ?_).ars
        rw [HW.out]
        exact Wait.grown ho (by first | omega | (simp; omega)) (fun k hk => by have := H.out.kK k hk; first | omega | (simp; omega))
      · exact (((Kept.refl _ _).setCell (.inl H.out.kC) _).alloc _).trans (((Kept.of_below (hb.mono (by simp)) K)).setCell (.inl H.out.kp) _)
  · have g1 := blk_ne n3 H.out.hp (by decide)
    have g2 := blk_ne H.out.hp n3 (by decide)
    have gs := lt_heap n3
    have N7 := Lib.hid n7
    have olds : ∀ (j : Nat) (u : Value), (s.wt.map (Value.int .i64))[j]? = some u → ((w.setCell ⟨C, i.toNat, none⟩ (.int .i64 0)).alloc (.cells #[.int .i64 i] 3)).cell? ⟨g, off + j, none⟩ = some u := by
      intro j u hj
      have hj' : j < s.wt.length := by have := (List.getElem?_eq_some_iff.1 hj).1; simpa using this
      rw [cell_old (by simpa using gs), cell_apart n1, cell_of_row _ _ _ _ _ _ n3, N7.out j hj', ← hj]
      simp [hj']
    have hsp : s.wt.length + 1 ≤ cap → ∀ j, j < 1 → (((w.setCell ⟨C, i.toNat, none⟩ (.int .i64 0)).alloc (.cells #[.int .i64 i] 3)).cell? ⟨g, off + s.wt.length * 1 + j, none⟩).isSome = true ∧ ((w.setCell ⟨C, i.toNat, none⟩ (.int .i64 0)).alloc (.cells #[.int .i64 i] 3)).frozen? ⟨g, off + s.wt.length * 1 + j, none⟩ = false := by
      intro hr j hj
      obtain rfl : j = 0 := by omega
      rw [Nat.mul_one, Nat.add_zero, cell_old (by simpa using gs), cell_apart n1, cell_of_row _ _ _ _ _ _ n3]
      refine ⟨by simp; omega, ?_⟩
      rw [frozen_old (by simpa using gs), frozen_apart n1]
      exact frozen_of_row _ _ _ _ _ n3
    have HO := Lib.hid olds
    have HS := Lib.hid hsp
    have N3 := Lib.hid n3
    have fg : ∀ j, w.frozen? ⟨g, j, none⟩ = false := fun j => frozen_of_row _ _ _ _ _ n3
    clear olds hsp n7 n3
    go_enter Try.func11, Try.ntmps11
    go_wp2_with (first | (at_builtin; refine wpList_append_arg _ rfl (.tmp 30) (.tmp 32) 35 rfl 3 i0 (.int .i64 0) 1 8 Try.underlying35 hi hz0 hz1 hz2 rfl (by decide) g off s.wt.length cap (s.wt.map (Value.int .i64)) rfl ?lo ?olds ⟨w.heap.size, 0, none⟩ 1 1 [.int .i64 i] rfl rfl ?c1 ?c2 ?spare ?b1 ?b2 ?room ?grow) | (go_at_call 39; refine Hs.out.mono ?_; rintro e w' ⟨rfl, rfl⟩))
    case lo => simp
    case olds => exact HO.out
    case c1 => intro j u hj; match j, hj with | 0, hj => simp at hj; subst hj; exact cell_new (by simp) rfl
    case c2 => intro u hu; simp at hu; subst hu; rfl
    case spare => exact HS.out
    case b1 => unfold maxLen; omega
    case b2 => omega
    case room =>
      intro hr
      simp only [World.setCells]
      go_wp2
      go_ret
      refine ⟨rfl, ?_, ?_⟩
      · exact (((H'.out.push (i := i) n1 n2 ((heap_setCell_other _ _ _ _ n1).trans N3.out) hr n5 n6 N7.out).alloc (.cells #[.int .i64 i] 3))).ars
      · exact ((((Kept.refl _ _).setCell (.inl H.out.kC) _).setCell (.inl n2) _).setCell (.inl H.out.kp) _).alloc _
    case grow =>
      intro hg v' w1 hown hgrow
      obtain ⟨g', cap', rfl⟩ : ∃ g cap', v' = .slice (some ⟨g, 0, none⟩) (s.wt.length + 1) cap' := by
        rcases hown.2 with ⟨_, h⟩ | ⟨g, cap', _, h, _⟩
        · omega
        · exact ⟨g, cap', h⟩
      have hbel : Below (w.heap.size + 1) ((w.setCell ⟨C, i.toNat, none⟩ (.int .i64 0)).alloc (.cells #[.int .i64 i] 3)) w1 := (Below.refl _ _).grown hgrow (by simp) (fun k h => by cases h)
      have k3 : w1.cell? ⟨p, 3, none⟩ = some (.slice (some ⟨g, off, none⟩) s.wt.length cap) := (hbel.cell (p := ⟨p, 3, none⟩) (by simp; omega)).trans (H'.out.alloc _).c3
      have e3 : w1.frozen? ⟨p, 3, none⟩ = false := (hbel.frozen (p := ⟨p, 3, none⟩) (by simp; omega)).trans ((H'.out.alloc _).f 3)
      have HB := Lib.hid hbel
      have HO := Lib.hid hown
      clear hbel hown hgrow
      go_wp2
      go_ret
      have hb := HB.out
      have ho := HO.out
      refine ⟨rfl, ?_, ?_⟩
      · have A1 := (H'.out.alloc (.cells #[.int .i64 i] 3)).kept (w' := w1) hb.size fun b hlt _ => hb.block b (by simpa [World.setCell] using hlt)
        refine (A1.setWait (v := .slice (some ⟨g', 0, none⟩) (s.wt.length + 1) cap') (l := s.wt ++ [i]) ?_).ars
        have := Wait.grown (K := K) (C := C) (l := s.wt ++ [i]) (by simpa using ho) (by first | omega | (simp; omega)) (fun k hk => by have := H.out.kK k hk; first | omega | (simp; omega))
        simpa using this
      · exact (((Kept.refl _ _).setCell (.inl H.out.kC) _).alloc _).trans (((Kept.of_below (hb.mono (by simp)) K)).setCell (.inl H.out.kp) _)

/-- The numbers of an arena are in their bounds. -/
structure Ar.Fit (s : Ar) : Prop where
  n : s.n ≤ 6000
  c : ∀ i, 0 ≤ s.c i ∧ s.c i ≤ 1000000000000
  l : s.wt.length ≤ 6000
theorem Ar.Ok.fit {s : Ar} {B : Int} (h : s.Ok B) (hB : B ≤ 1000000000000) : s.Fit := ⟨h.n2, fun i => by have := h.c i; omega, by have := h.len; have := h.n2; omega⟩

theorem keep_any (K : Nat → Prop) (p : Nat) (s : Ar) (w : World) (i : Int) (h : Ars w K p s) (hf : s.Fit) :
    Calls Try.prog 48 #[.pointer (some ⟨p, 0, none⟩), .int .i64 i] w fun e w' => e = .returned (.int .i64 (s.keep i).2) ∧ Ars w' K p (s.keep i).1 ∧ Kept K w w' := by
  unfold Ar.keep
  by_cases h0 : s.count i = 0
  · rw [if_pos h0]
    exact (keep_no K p s w i h hf.n h0).mono fun e w' ⟨a, b⟩ => ⟨a, b ▸ h, b ▸ Kept.refl _ _⟩
  · rw [if_neg h0]
    exact keep_yes K p s w i h hf.n h0 (hf.c _)
theorem drop_any (K : Nat → Prop) (p : Nat) (s : Ar) (w : World) (i : Int) (h : Ars w K p s) (hf : s.Fit) :
    Calls Try.prog 11 #[.pointer (some ⟨p, 0, none⟩), .int .i64 i] w fun e w' => e = .returned (.int .i64 (s.drop i).2) ∧ Ars w' K p (s.drop i).1 ∧ Kept K w w' := by
  unfold Ar.drop
  by_cases h0 : s.count i = 0
  · rw [if_pos h0]
    exact (drop_no K p s w i h hf.n h0).mono fun e w' ⟨a, b⟩ => ⟨a, b ▸ h, b ▸ Kept.refl _ _⟩
  · rw [if_neg h0]
    unfold Ar.drop1
    by_cases h1 : s.c i.toNat = 1
    · simp only [h1]
      exact drop_last K p s w i h hf.n h0 h1 hf.l
    · have e : ¬ s.c i.toNat - 1 = 0 := by omega
      simp only [if_neg e]
      exact drop_less K p s w i h hf.n h0 h1 (hf.c _)
end Go.Proofs.Ytcdmebjggdhhdaa
