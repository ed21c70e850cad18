/- What is reached: the walk of Reach. -/
import Derived.Test.YtcdmebjggdhhdaaSrt
import Derived.Test.YtcdmebjggdhhdaaSm
import Derived.Test.YtcdmebjggdhhdaaA7
import Derived.Deep.LoopGhost
namespace Go.Proofs.Ytcdmebjggdhhdaa
open Go.RowKit

/-- At the loop's head. -/
structure RS (w : World) (mb : Nat) (s : Ar) (roots : List Int) (Kt Ko : Nat → Prop) (todo out zs : List Int) (vt vo : Value) (W : World) : Prop where
  map : SMap W mb zs
  mz : ∀ x, x ∈ zs ↔ x ∈ out
  ml : zs.length = out.length
  lt : Lst W w.heap.size Kt vt todo
  lo : Lst W w.heap.size Ko vo out
  kt : ∀ b, Kt b → w.heap.size ≤ b ∧ b < W.heap.size ∧ b ≠ mb ∧ ¬ Ko b
  ko : ∀ b, Ko b → w.heap.size ≤ b ∧ b < W.heap.size ∧ b ≠ mb
  mw : w.heap.size ≤ mb
  bel : Below w.heap.size w W
  seek : Seek s roots todo out
section
variable {w W : World} {mb : Nat} {s : Ar} {roots : List Int} {Kt Ko : Nat → Prop} {todo out zs : List Int} {vt vo : Value} {h : Int}
theorem RS.skip {g T c : Nat} (r : RS w mb s roots Kt Ko (todo ++ [h]) out zs (.slice (some ⟨g, 0, none⟩) T c) vo W) (hc : s.count h = 0 ∨ h ∈ out) : RS w mb s roots Kt Ko todo out zs (.slice (some ⟨g, 0, none⟩) todo.length c) vo W := by
  have := r.lt.shrink (m := todo.length) (by simp)
  rw [List.take_left'] at this
  · exact ⟨r.map, r.mz, r.ml, this, r.lo, r.kt, r.ko, r.mw, r.bel, r.seek.skip hc⟩
  · rfl
/-- What the map's word leaves. -/
theorem RS.put {W1 : World} (r : RS w mb s roots Kt Ko (todo ++ [h]) out zs vt vo W) (hg : W.grownBy W1 (some mb)) : Lst W1 w.heap.size Kt vt (todo ++ [h]) ∧ Lst W1 w.heap.size Ko vo out ∧ Below w.heap.size w W1 := by
  have hlt := r.map.lt
  refine ⟨r.lt.kept ((Kept.refl Kt W).grown hg fun k e => by cases e; exact .inl fun e => (r.kt _ e).2.2.1 rfl), r.lo.kept ((Kept.refl Ko W).grown hg fun k e => by cases e; exact .inl fun e => (r.ko _ e).2.2 rfl), r.bel.grown hg r.bel.size fun k e => by cases e; exact r.mw⟩
theorem RS.take {W1 W2 W3 : World} {o : Obj} {Ko' Kt' : Nat → Prop} {vo' vt' : Value} (r : RS w mb s roots Kt Ko (todo ++ [h]) out zs vt vo W) (hm : SMap W1 mb (h :: zs)) (hg : W.grownBy W1 (some mb)) (ho : Pushed (W1.alloc o) W2 w.heap.size Ko Ko' vo' (out ++ [h])) (ht : PushedS W2 W3 w.heap.size Kt Kt' vt' (todo ++ (s.nd h.toNat).kids)) (hc : s.count h ≠ 0) (hn : ¬ h ∈ out) :
    RS w mb s roots Kt' Ko' (todo ++ (s.nd h.toNat).kids) (out ++ [h]) (h :: zs) vt' vo' W3 := by
  have l1 := hm.lt
  have s1 := hg.size
  have s2 := ho.size
  have s3 := ht.size
  have sa : (W1.alloc o).heap.size = W1.heap.size + 1 := by simp
  have bel1 := (r.put hg).2.2
  have belA : Below w.heap.size w (W1.alloc o) := bel1.alloc bel1.size o
  have hmA : SMap (W1.alloc o) mb (h :: zs) := hm.same (Below.heap_alloc _ _ _ l1)
  have hm2 : SMap W2 mb (h :: zs) := hmA.same (ho.same mb (by omega) fun e => (r.ko _ e).2.2 rfl)
  have hm3 : SMap W3 mb (h :: zs) := hm2.same (ht.same mb hm2.lt fun e => (r.kt _ e).2.2.1 rfl)
  have ko2 : ∀ b, Ko' b → w.heap.size ≤ b ∧ b < W2.heap.size ∧ b ≠ mb ∧ ¬ Kt b := by
    intro b hb
    obtain ⟨a, c⟩ := ho.new b hb
    rcases c with c | c
    · have := r.ko b c
      exact ⟨this.1, a, this.2.2, fun e => (r.kt b e).2.2.2 c⟩
    · refine ⟨by have := bel1.size; omega, a, by omega, fun e => ?_⟩
      have := (r.kt b e).2.1
      omega
  refine ⟨hm3, fun x => ?_, by simp [r.ml], ht.lst, ho.lst.kept ⟨?_, ?_, ?_, s3, fun b hb hk => ht.same b hb (ko2 b hk).2.2.2⟩, fun b hb => ?_, fun b hb => ?_, r.mw, (belA.trans ho.below).trans ht.below, r.seek.take hc hn⟩
  · simp only [List.mem_cons, List.mem_append, r.mz x, List.not_mem_nil, or_false]
    exact or_comm
  · exact ht.below.os
  · exact ht.below.tape
  · exact ht.below.output
  · obtain ⟨a, c⟩ := ht.new b hb
    rcases c with c | c
    · have := r.kt b c
      refine ⟨this.1, a, this.2.2.1, fun e => (ko2 b e).2.2.2 c⟩
    · refine ⟨by have := bel1.size; omega, a, by omega, fun e => ?_⟩
      have := (ko2 b e).2.1
      omega
  · have := ko2 b hb
    exact ⟨this.1, by omega, this.2.2.1⟩
theorem last_split {l : List Int} (h : l ≠ []) : ∃ i x, l = i ++ [x] := ⟨l.dropLast, l.getLast h, (List.dropLast_concat_getLast h).symm⟩
end
section
variable {K : Nat → Prop} {p : Nat} {s : Ar} {w : World} {roots : List Int} {v : Value}
set_option maxRecDepth 100000 in
set_option maxHeartbeats 8000000 in
theorem reach_is (ha : Ars w K p s) (hf : s.Fit) (hv : Ints w v roots) (hl : roots.length ≤ 100000000) :
    Calls Try.prog 16 #[.pointer (some ⟨p, 0, none⟩), v] w fun e w' => ∃ v' ys Ko, e = .returned v' ∧ Lst w' w.heap.size Ko v' ys ∧ (∀ b, Ko b → w.heap.size ≤ b ∧ b < w'.heap.size) ∧ Asc ys ∧ (∀ x, x ∈ ys ↔ Rch s roots x) ∧ Below w.heap.size w w' := by
  have Ha := Lib.hid ha
  have Hf := Lib.hid hf
  have Hv := Lib.hid hv
  have hmm := @run_makeMap Try.prog
  have hn := hf.n
  clear ha hf hv
  go_enter Try.func16, Try.ntmps16
  go_wp2_with fail
  have hb0 : Below w.heap.size w (w.alloc (.map #[] 0)) := (Below.refl _ _).alloc (Nat.le_refl _) _
  refine (clone_ints (Hv.out.below hb0) (by omega)).mono ?_
  rintro e w1 ⟨vt, rfl, hlt, hb1⟩
  have h0 : RS w w.heap.size s roots (fun b => (w.alloc (.map #[] 0)).heap.size ≤ b ∧ b < w1.heap.size) (fun _ => False) roots [] [] vt (.slice none 0 0) w1 := by
    refine ⟨((SMap.new w).same (hb1.block _ (by simp))), fun x => Iff.rfl, rfl, ⟨?_, hlt.2⟩, Lst.nil _ _ _, fun b hb => ?_, fun b hb => hb.elim, Nat.le_refl _, hb0.trans (hb1.mono (by simp)), Seek.start s roots⟩
    · obtain ⟨h1, h2⟩ := hlt.1
      refine ⟨h1, ?_⟩
      rcases h2 with h2 | ⟨g, cap, cur, rfl, hg, r⟩
      · exact .inl h2
      · exact .inr ⟨g, cap, cur, rfl, by simp at hg; omega, r⟩
    · simp only [World.size_alloc] at hb
      exact ⟨by omega, hb.2, by omega, fun e => e⟩
  have H0 := Lib.hid h0
  clear h0 hlt hb1 hb0 hmm
  go_wp2_with fail
  go_loopg [6, 7] (4 * s.n + roots.length) (fun k t o W => ∃ Kt Ko todo out zs, RS w w.heap.size s roots Kt Ko todo out zs t o W ∧ 4 * (s.n - out.length) + todo.length ≤ k ∧ k ≤ 4 * s.n + roots.length)
  case atStart => exact ⟨_, _, _, _, _, H0.out, by simp, Nat.le_refl _⟩
  case round =>
    obtain ⟨Kt, Ko, todo, out, zs, hr, hk, hk2⟩ := hrel
    clear H0
    have hol := hr.seek.len
    obtain ⟨M, hM⟩ : ∃ M, Hid (M = w.heap.size) := ⟨_, rfl⟩
    by_cases ht : todo = []
    · subst ht
      obtain ⟨a, c, rfl⟩ := hr.lt.slice
      have Hr := Lib.hid hr
      clear hr
      have H := Lib.hid (sort_lst Hr.out.lo (by omega))
      go_wp2_with fail
      refine H.out.mono ?_
      rintro e w5 ⟨rfl, hl5, ho5⟩
      go_wp2_with fail
      go_ret
      obtain ⟨q1, q2⟩ := asc_sort Hr.out.seek.nodup
      exact ⟨_, _, Ko, rfl, hl5, fun b hb => ⟨(Hr.out.ko b hb).1, Nat.lt_of_lt_of_le (Hr.out.ko b hb).2.1 ho5.size⟩, q1, fun x => (q2 x).trans (Hr.out.seek.fin x), Hr.out.bel.trans (ho5.below (fun b hb => (Hr.out.ko b hb).1) Hr.out.bel.size)⟩
    · obtain ⟨ini, h, rfl⟩ := last_split ht
      clear ht
      obtain ⟨m, hm⟩ : ∃ m, ini.length = m := ⟨_, rfl⟩
      have hlen : (ini ++ [h]).length = m + 1 := by simp [hm]
      obtain ⟨g, c, hsl, hcp, hKg, hcells⟩ := hr.lt.at_ (i := 0) (by omega)
      rw [hlen] at hsl hcp hcells
      subst hsl
      have hc0 := hcells m (by omega)
      have hgd : (ini ++ [h]).getD m 0 = h := by simp [List.getD, hm]
      rw [hgd] at hc0
      have hlk := fun hw => hr.map.look (k := h) hw
      have hmz := hr.mz h
      have Hr := Lib.hid hr
      have Hm := Lib.hid hm
      have H1 := Lib.hid (count_is h rfl (Ha.out.below hr.bel) Hf.out)
      clear hr hcells hm hgd
      have hml : m + 1 ≤ 200000000 := by rw [hlen] at hk; omega
      by_cases hz : s.count h = 0
      · have Hz := Lib.hid hz
        rw [hz] at H1
        clear hlk hmz hz
        go_wp2_with (go_at_call 39; refine H1.out.mono ?_; rintro e w' ⟨rfl, rfl⟩)
        go_roundg (gk - 1)
        case measure => omega
        case rel => exact ⟨Kt, Ko, ini, out, zs, by have := Hr.out.skip (.inl Hz.out); rwa [Hm.out] at this, by have := Hm.out; simp at hk; omega, by omega⟩
      · obtain ⟨p1, p2, p3⟩ := count_pos hz
        have wh : (Lit.int .i64 h).wf = true := WalkArith.wf_i64 (by omega)
        replace hlk := hlk wh
        clear p3
        have hz' : (s.count h == 0) = false := by simpa using hz
        have Hz := Lib.hid hz
        clear hz
        by_cases ho : h ∈ out
        · have Ho := Lib.hid ho
          rw [decide_eq_true (hmz.2 ho)] at hlk
          clear hmz ho
          go_wp2_with (go_at_call 39; refine H1.out.mono ?_; rintro e w' ⟨rfl, rfl⟩)
          go_roundg (gk - 1)
          case measure => omega
          case rel => exact ⟨Kt, Ko, ini, out, zs, by have := Hr.out.skip (.inr Ho.out); rwa [Hm.out] at this, by have := Hm.out; simp at hk; omega, by omega⟩
        · have Ho := Lib.hid ho
          have Hnz := Lib.hid (show ¬ h ∈ zs from fun e => ho (hmz.1 e))
          rw [decide_eq_false Hnz.out] at hlk
          clear hmz ho
          have Hol := Lib.hid (show zs.length ≤ 1000000000 by have := Hr.out.ml; omega)
          go_wp2_with (first | (go_at_call 39; refine H1.out.mono ?_; rintro e w' ⟨rfl, rfl⟩) | (at_mapUpdate; refine wpList_smap_put Hr.out.map Hol.out rfl _ _ _ rfl rfl h rfl rfl wh Hnz.out ?_))
          intro w4 hm4 hg4
          obtain ⟨lt4, lo4, b4⟩ := Hr.out.put hg4
          have Hm4 := Lib.hid hm4
          have Hg4 := Lib.hid hg4
          have Lt4 := Lib.hid lt4
          have B4 := Lib.hid b4
          have Lo5 := Lib.hid (lo4.kept ((Kept.refl Ko w4).alloc (.cells #[.int .i64 h] 3)))
          have Kx5 := Lib.hid (show ∀ b, Ko b → b < (w4.alloc (.cells #[.int .i64 h] 3)).heap.size from fun b hb => by have := (Hr.out.ko b hb).2.1; have := hg4.size; simp; omega)
          have Bs5 := Lib.hid (show w.heap.size ≤ (w4.alloc (.cells #[.int .i64 h] 3)).heap.size by have := b4.size; simp; omega)
          have Ln5 := Lib.hid (show out.length + 1 ≤ 1000000000 by omega)
          clear hm4 hg4 lt4 lo4 b4 hlk hc0
          go_wp2_with (at_builtin; refine wpList_append_lst Lo5.out Kx5.out Bs5.out Ln5.out rfl (.tmp 37) (.tmp 39) rfl rfl ⟨w4.heap.size, 0, none⟩ h 1 rfl (cell_new rfl rfl) ?_)
          intro vo' w6 Ko' hp
          have HP := Lib.hid hp
          clear hp
          have lts := Lt4.out.shrink (m := ini.length) (by simp)
          rw [List.take_left' rfl, Hm.out] at lts
          have Kk : Kept Kt (w4.alloc (.cells #[.int .i64 h] 3)) w6 := ⟨HP.out.below.os, HP.out.below.tape, HP.out.below.output, HP.out.size, fun b hb hk => HP.out.same b hb (Hr.out.kt b hk).2.2.2⟩
          have Lt6 := Lib.hid ((lts.kept ((Kept.refl Kt w4).alloc (.cells #[.int .i64 h] 3))).kept Kk)
          have b6 := (B4.out.alloc B4.out.size (.cells #[.int .i64 h] 3)).trans HP.out.below
          have Kx6 := Lib.hid (show ∀ b, Kt b → b < w6.heap.size from fun b hb => by have := (Hr.out.kt b hb).2.1; have := Hg4.out.size; have := HP.out.size; simp at this; omega)
          have Bs6 := Lib.hid (show w.heap.size ≤ w6.heap.size from b6.size)
          have Ln6 := Lib.hid (show ini.length + 4 ≤ 1000000000 by have := Hm.out; omega)
          have ha6 := Ha.out.below b6
          obtain ⟨N, C, U, wv, ha6⟩ := ha6
          have c0 := ha6.c0
          have n1 := ha6.node (i := h.toNat) (j := 1) (by omega) (by omega)
          have n2 := ha6.node (i := h.toNat) (j := 2) (by omega) (by omega)
          have n3 := ha6.node (i := h.toNat) (j := 3) (by omega) (by omega)
          have n4 := ha6.node (i := h.toNat) (j := 4) (by omega) (by omega)
          have Nc := Lib.hid (show ∀ j, j < 4 → w6.cell? ((⟨N, h.toNat * 7 + 1, none⟩ : Addr).add j) = some (.int .i64 ((s.nd h.toNat).kids.getD j 0)) from fun j hj => by
            rw [Addr.add_lit]
            have e : j = 0 ∨ j = 1 ∨ j = 2 ∨ j = 3 := by omega
            rcases e with rfl | rfl | rfl | rfl
            · exact n1
            · exact n2
            · exact n3
            · exact n4)
          have hin : (h : Int) < (s.n : Int) + 1 := by omega
          clear n1 n2 n3 n4 ha6 lts Kk b6
          go_wp2_with (at_builtin; refine wpList_append_ints Lt6.out Kx6.out Bs6.out rfl (.tmp 41) (.tmp 49) (by rfl) (by rfl) ⟨N, h.toNat * 7 + 1, none⟩ 4 4 (by rfl) (by rfl) Ln6.out Nc.out ?_)
          intro vt' w7 Kt' hp
          have HT := Lib.hid hp
          clear hp
          go_wp2_with fail
          go_roundg (gk - 1)
          case measure => omega
          case rel =>
            have hr2 := Hr.out.take Hm4.out Hg4.out HP.out HT.out Hz.out Ho.out
            refine ⟨Kt', Ko', _, _, _, hr2, ?_, by omega⟩
            have q1 := hr2.seek.len
            have q2 : (s.nd h.toNat).kids.length = 4 := rfl
            have q3 := Hm.out
            simp only [List.length_append, List.length_singleton] at q1 hk ⊢
            omega
end
end Go.Proofs.Ytcdmebjggdhhdaa
