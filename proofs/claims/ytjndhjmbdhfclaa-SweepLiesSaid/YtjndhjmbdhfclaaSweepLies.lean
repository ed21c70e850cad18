/- SweepLies holds: one count more, or less, than somebody has is seen. No condition. -/
import Derived.Test.YtjndhjmbdhfclaaSw13
import Derived.Test.YtjndhjmbdhfclaaArg
import Derived.Test.YtjndhjmbdhfclaaLaw
namespace Go.Proofs.Ytjndhjmbdhfclaa.sweepLies
set_option maxRecDepth 100000
open Go.ChangeShapes Go.WideShapes Go.ChangeAt Go.RowKit
set_option linter.unusedVariables false
/-- The list, beside the arena. -/
structure Lw (w : World) (p : Nat) (K Kl : Nat → Prop) (xs : List Int) (s : Ar) (v : Value) (W : World) : Prop where
  ars : Ars W K p s
  lst : Lst W w.heap.size Kl v xs
  sub : ∀ x, Kl x → K x
  kK : ∀ x, x < w.heap.size → K x
  bel : Below w.heap.size w W
section
variable {w W W' : World} {p : Nat} {K Kl : Nat → Prop} {xs : List Int} {s : Ar} {v : Value}
theorem Lw.below (h : Lw w p K Kl xs s v W) (hb : Below W.heap.size W W') : Lw w p K Kl xs s v W' :=
  ⟨h.ars.below hb, h.lst.kept (Kept.of_below hb Kl), h.sub, h.kK, h.bel.trans (hb.mono h.bel.size)⟩
theorem Lw.push {s' : Ar} {y : Int} {W1 W3 : World} (h : Lw w p K Kl xs s v W) (ha : Ars W1 K p s') (hk : Kept K W W1) (o : Obj) :
    Lst (W1.alloc o) w.heap.size Kl v xs ∧ (∀ x, Kl x → x < (W1.alloc o).heap.size) ∧ w.heap.size ≤ (W1.alloc o).heap.size ∧
    ∀ Kl' v', Pushed (W1.alloc o) W3 w.heap.size Kl Kl' v' (xs ++ [y]) → Lw w p (fun x => K x ∨ Kl' x) Kl' (xs ++ [y]) s' v' W3 := by
  have hl1 : Lst W1 w.heap.size Kl v xs := h.lst.kept (hk.mono fun x _ hx => h.sub x hx)
  have hl3 : Lst (W1.alloc o) w.heap.size Kl v xs := hl1.kept ((Kept.refl Kl W1).alloc o)
  have hlt : ∀ x, Kl x → x < (W1.alloc o).heap.size := fun x hx => by have := ha.lt x (h.sub x hx); simp; omega
  have bel1 : Below w.heap.size w W1 := h.bel.trans ((hk.mono fun x _ hx => h.kK x hx).below_of h.bel.size)
  have bel3 := bel1.alloc bel1.size o
  refine ⟨hl3, hlt, bel3.size, fun Kl' v' hp => ?_⟩
  refine ⟨(ha.alloc o).step hp.size (fun x hx hnk => hp.same x hx fun hh => hnk (h.sub x hh)) (fun x hx => ?_), hp.lst, fun x hx => .inr hx, fun x hx => .inl (h.kK x hx), bel3.trans hp.below⟩
  rcases hx with hx | hx
  · exact ⟨Nat.lt_of_lt_of_le ((ha.alloc o).lt x hx) hp.size, .inl hx⟩
  · obtain ⟨a, c⟩ := hp.new x hx
    exact ⟨a, c.imp (h.sub x) id⟩
end
theorem cells_zero (w : World) (ty : TypeId) (j : Nat) (hj : j < 2) : (w.alloc (.cells #[.int .i64 0, .int .i64 0] ty)).cell? ((⟨w.heap.size, 0, none⟩ : Addr).add j) = some (.int .i64 (([0, 0] : List Int).getD j 0)) := by
  rw [Addr.add_lit, Nat.zero_add]
  have : j = 0 ∨ j = 1 := by omega
  rcases this with rfl | rfl <;> exact cell_new rfl rfl
theorem after_one {wc w5 : World} {g k : Nat} {Kx : Nat → Prop} {v1 : Value} {xs : List Int} {y : Int} (hp1 : PushedS wc.drew w5 wc.heap.size (fun _ => False) Kx v1 xs) (hg : g < wc.heap.size) (hc : wc.cell? ⟨g, k, none⟩ = some (.int .i64 y)) :
    w5.cell? ⟨g, k, none⟩ = some (.int .i64 y) ∧ g < w5.heap.size ∧ Below wc.heap.size wc w5 ∧ (∀ o : Obj, Lst (w5.alloc o) wc.heap.size Kx v1 xs) ∧ (∀ (o : Obj) (b : Nat), Kx b → b < (w5.alloc o).heap.size) ∧ (∀ o : Obj, wc.heap.size ≤ (w5.alloc o).heap.size) ∧
    (∀ (ty : TypeId) (z : Int) (j : Nat), j < 1 → (w5.alloc (.cells #[.int .i64 z] ty)).cell? ((⟨w5.heap.size, 0, none⟩ : Addr).add j) = some (.int .i64 (([z] : List Int).getD j 0))) ∧ (∀ o : Obj, (w5.alloc o).cell? ⟨g, k, none⟩ = some (.int .i64 y)) := by
  have hs : wc.heap.size ≤ w5.heap.size := hp1.size
  have c5 : w5.cell? ⟨g, k, none⟩ = some (.int .i64 y) := (hp1.below.cell (p := ⟨g, k, none⟩) hg).trans hc
  refine ⟨c5, by omega, Below.trans (Below.refl wc.heap.size wc).drew hp1.below, fun o => hp1.lst.kept ((Kept.refl Kx w5).alloc o), fun o b hb => by have := (hp1.new b hb).1; simp; omega, fun o => by simp; omega, fun ty z j hj => ?_, fun o => (((Below.refl w5.heap.size w5).alloc (Nat.le_refl _) o).cell (p := ⟨g, k, none⟩) (show g < w5.heap.size by omega)).trans c5⟩
  obtain rfl : j = 0 := by omega
  exact cell_new rfl rfl
theorem after_two {wc w5 : World} {g k : Nat} {ty : TypeId} {Kx : Nat → Prop} {v1 : Value} {xs : List Int} {y z : Int} (hp1 : PushedS (wc.drew.alloc (.cells #[.int .i64 z] ty)) w5 wc.heap.size (fun _ => False) Kx v1 xs) (hg : g < wc.heap.size) (hc : wc.cell? ⟨g, k, none⟩ = some (.int .i64 y)) :
    w5.cell? ⟨g, k, none⟩ = some (.int .i64 y) ∧ g < w5.heap.size ∧ Below wc.heap.size wc w5 ∧ wc.heap.size ≤ w5.heap.size ∧ (∀ j, j < 1 → w5.cell? ((⟨wc.heap.size, 0, none⟩ : Addr).add j) = some (.int .i64 (([z] : List Int).getD j 0))) := by
  have hs : wc.heap.size + 1 ≤ w5.heap.size := by have h : (wc.drew.alloc (.cells #[.int .i64 z] ty)).heap.size ≤ w5.heap.size := hp1.size; simp at h; exact h
  have b0 : Below wc.heap.size wc (wc.drew.alloc (.cells #[.int .i64 z] ty)) := (Below.refl wc.heap.size wc).drew.alloc (Nat.le_refl _) _
  have b1 : Below wc.heap.size wc w5 := b0.trans hp1.below
  refine ⟨(b1.cell (p := ⟨g, k, none⟩) hg).trans hc, by omega, b1, by omega, fun j hj => ?_⟩
  obtain rfl : j = 0 := by omega
  have h : (wc.drew.alloc (.cells #[.int .i64 z] ty)).cell? ⟨wc.heap.size, 0, none⟩ = some (.int .i64 z) := cell_new rfl rfl
  exact (World.cell?_of_block (hp1.same wc.heap.size (by simp) fun e => e)).trans h
theorem takeW {P : Program} {ops : Array Oper} {Q : Exit → Act → World → Prop} {md : Region.Mode} {i : Nat} {oi : Oper} {v : Value} {d : Option Tmp} {fuel : Nat} {listed : Array Bool} {a : Act} {w : World} (hi : ops[i]? = some oi) (hd : oi.dst = d)
    (hs : Region.noSelect ops = true) (hf : Region.free md ops listed i = true) (hr : (Region.ready md ops listed).contains i = true)
    (hQ : ∀ c a w, Q (.panic c) (a.put d v) w → Q (.panic c) a w) (hw : Region.wanted oi (yielded ops a.tmps) = true) (hy : ∀ w, (execOp a.eval oi).run P w = .ok (.value v) w)
    (h : wpAnyH P md ops Q (fun _ => True) fuel (listed.setIfInBounds i true) (a.put d v) w) : wpAnyH P md ops Q (fun _ => True) (fuel + 1) listed a w := by
  subst hd
  exact wpAnyH_take hi hs hf hr hQ (.inl ⟨hw, fun w _ => hy w⟩) trivial h
theorem takeU {P : Program} {ops : Array Oper} {Q : Exit → Act → World → Prop} {md : Region.Mode} {i : Nat} {oi : Oper} {d : Option Tmp} {fuel : Nat} {listed : Array Bool} {a : Act} {w : World} (hi : ops[i]? = some oi) (hd : oi.dst = d)
    (hs : Region.noSelect ops = true) (hf : Region.free md ops listed i = true) (hr : (Region.ready md ops listed).contains i = true)
    (hQ : ∀ c a w, Q (.panic c) (a.put d undef) w → Q (.panic c) a w) (hw : Region.wanted oi (yielded ops a.tmps) = false)
    (h : wpAnyH P md ops Q (fun _ => True) fuel (listed.setIfInBounds i true) (a.put d undef) w) : wpAnyH P md ops Q (fun _ => True) (fuel + 1) listed a w := by
  subst hd
  exact wpAnyH_take hi hs hf hr hQ (.inr ⟨hw, rfl⟩) trivial h
set_option maxRecDepth 100000 in
set_option maxHeartbeats 16000000 in
theorem walk (n : Int) (w0 : (Lit.int .i64 n).wf = true) (at_ : Int) (w1' : (Lit.int .i64 at_).wf = true) (more : Bool) (w : World) :
    Calls Try.prog 9 #[.int .i64 n, .int .i64 at_, .bool more] w fun e w' => e = .returned (.bool true) ∧ Below w.heap.size w w' := by
  have HA := Lib.hid alive19
  by_cases h1 : n < 1
  · skip
    go_enter Try.func9, Try.ntmps9
    go_wp2_with fail
    refine (HA.out w).mono ?_
    rintro e w1 ⟨rfl, hb⟩
    go_wp2_with fail
    go_ret
    exact ⟨rfl, hb⟩
  by_cases h2 : 20 < n
  · skip
    go_enter Try.func9, Try.ntmps9
    go_wp2_with fail
    refine (HA.out w).mono ?_
    rintro e w1 ⟨rfl, hb⟩
    go_wp2_with fail
    go_ret
    exact ⟨rfl, hb⟩
  obtain ⟨N, rfl⟩ := Int.eq_ofNat_of_zero_le (show 0 ≤ n by omega)
  go_enter Try.func9, Try.ntmps9
  go_wp2_with fail
  refine (HA.out w).mono ?_
  rintro e w1 ⟨rfl, hb⟩
  have HB := Lib.hid (show 1 ≤ N ∧ N ≤ 20 by omega)
  go_wp2_with fail
  refine (new_yes 20 _ (by decide) (by decide)).mono ?_
  rintro e w2 ⟨p, rfl, hb2, ha⟩
  have hd0 : Lw w p (fun b => b < w.heap.size) (fun _ => False) (upto 0) (Lf 20 0) (.slice none 0 0) w2 :=
    ⟨by rw [Lf_zero]; exact ha _ (fun b h => by have := hb.size; omega), Lst.nil _ _ _, fun b h => h.elim, fun x h => h, hb.trans (hb2.mono hb.size)⟩
  have D0 := Lib.hid hd0
  clear hb hb2 ha hd0 h1 h2
  go_wp2_with fail
  go_loopw [8, 9] (fun v k W => ∃ (j : Nat) (K Kl : Nat → Prop), k = .int .i64 (j : Int) ∧ j ≤ N ∧ Lw w p K Kl (upto j) (Lf 20 j) v W) (fun _ k _ => N - (intOf k).toNat)
  case atStart => exact ⟨0, _, _, rfl, by omega, D0.out⟩
  case round =>
    obtain ⟨j, K, Kl, rfl, j1, hd⟩ := hrel
    have D := Lib.hid hd
    clear hd D0
    by_cases hj : j < N
    · have HJ := Lib.hid (show j < 20 by have := HB.out; omega)
      have hjI : (j : Int) ≤ 20 := by have := HB.out; omega
      obtain ⟨av, cv, hsv⟩ := D.out.lst.slice
      rw [upto_len] at hsv
      subst hsv
      have ok' := Lf_ok (n := 20) (by decide) (by decide) j (by have := HJ.out; omega)
      have H := Lib.hid (make_is leaf (Lf_make HJ.out) D.out.ars ok' (by have := HJ.out; omega))
      clear ok'
      go_wp2_with fail
      refine H.out.mono ?_
      clear H
      rintro e w5 ⟨rfl, ha, hk⟩
      have e1 : ((j + 1 : Nat) : Int) = (j : Int) + 1 := by omega
      obtain ⟨q1, q2, q3, q4⟩ := D.out.push (W3 := w5) (y := (j : Int) + 1) ha hk (.cells #[.int .i64 ((j : Int) + 1)] 3)
      have Q1 := Lib.hid q1
      have Q2 := Lib.hid q2
      have Q3 := Lib.hid q3
      have Ha := Lib.hid ha
      have Hk := Lib.hid hk
      have Ln := Lib.hid (show (upto j).length + 1 ≤ 1000000000 by rw [upto_len]; have := HJ.out; omega)
      clear q1 q2 q3 q4 ha hk
      rw [e1]
      clear e1
      go_wp2_with (at_builtin; refine wpList_append_lst Q1.out Q2.out Q3.out Ln.out rfl (.tmp 42) (.tmp 44) rfl rfl ⟨w5.heap.size, 0, none⟩ ((j : Int) + 1) 1 rfl (cell_new rfl rfl) ?_)
      intro v' w7 K2 hp
      have HP := Lib.hid hp
      clear hp
      go_wp2_with fail
      go_roundw
      case rel =>
        have hd := (D.out.push (W3 := w7) (y := (j : Int) + 1) Ha.out Hk.out (.cells #[.int .i64 ((j : Int) + 1)] 3)).2.2.2 _ _ HP.out
        rw [← upto_succ] at hd
        exact ⟨j + 1, _, _, by go_num, by omega, hd⟩
      case measure => simp [intOf]; omega
    · obtain rfl : N = j := by omega
      have HN := Lib.hid (show 1 ≤ N ∧ N ≤ 20 from HB.out)
      obtain ⟨b1, b2, b3, b4⟩ := pick at_ N (by have := HB.out; omega)
      obtain ⟨g, cp, hsl, hcp, hKg, hcells⟩ := D.out.lst.at_ (i := 0) (by rw [upto_len]; have := HB.out; omega)
      rw [upto_len] at hsl hcp hcells
      subst hsl
      have Hc := Lib.hid hcells
      clear hj j1 hcells
      go_upto_region 15 with fail
      have hr : (wrap64 (at_.tmod (N : Int) + (N : Int))).tmod (N : Int) = at_.tmod (N : Int) % (N : Int) := by
        have := HN.out
        rw [IntWalk.wrap64_in _ (by omega), Int.tmod_eq_emod_of_nonneg (by omega), Int.add_emod_right]
      rw [hr]
      clear b3 b4 hr
      generalize at_.tmod (N : Int) % (N : Int) = kk at *
      obtain ⟨k, rfl⟩ := Int.eq_ofNat_of_zero_le b1
      have hkN : k < N := by omega
      have HkN := Lib.hid hkN
      have Hcp := Lib.hid hcp
      clear b1 b2
      go_cut [13] (fun v W => ∃ Kx : Nat → Prop, Lst W wr.heap.size Kx v (less N k) ∧ Below wr.heap.size wr W)
      case first =>
        have gi1 : (0 : Int) ≤ (k : Int) := by omega
        have gi2 : (k : Int) ≤ (cp : Int) := by omega
        have gi3 : (k : Int) + 1 ≤ (N : Int) := by omega
        have gi4 : (N : Int) ≤ (cp : Int) := by omega
        have gi5 : (0 : Int) ≤ (k : Int) + 1 := by omega
        have gw : IntKind.i64.wrap ((k : Int) + 1) = (k : Int) + 1 := IntWalk.i64_in _ (by have := HN.out; omega)
        have Hg := Lib.hid (show g < wr.heap.size from cells_lt (Hc.out 0 (by omega)))
        have T1 := Lib.hid (show ∀ b : Nat, (fun _ : Nat => False) b → b < wr.drew.heap.size from fun b hb => hb.elim)
        have T2 := Lib.hid (show wr.heap.size ≤ wr.drew.heap.size from Nat.le_refl _)
        have T3 := Lib.hid (show ((upto N).take k).length = k by rw [List.length_take, upto_len]; omega)
        have T4 := Lib.hid (show ([] : List Int).length + k ≤ 1000000000 by have := HN.out; simp; omega)
        have T5 := Lib.hid (show ∀ i, i < k → wr.drew.cell? ((⟨g, 0, none⟩ : Addr).add i) = some (.int .i64 (((upto N).take k).getD i 0)) from fun i hi => by
          rw [Addr.add_lit, Nat.zero_add]
          refine (Hc.out i (by omega)).trans ?_
          simp [List.getD, hi])
        have T6 := Lib.hid (show ((upto N).drop (k + 1)).length = N - (k + 1) by rw [List.length_drop, upto_len])
        have T8 := Lib.hid (show k + (N - (k + 1)) ≤ 1000000000 by have := HN.out; omega)
        obtain ⟨ad2, hAd⟩ : ∃ ad2 : Addr, Hid (ad2 = if cp = k + 1 then ⟨g, 0, none⟩ else ⟨g, k + 1, none⟩) := ⟨_, rfl⟩
        have T7 := Lib.hid (show ∀ i, i < N - (k + 1) → ad2 = ⟨g, k + 1, none⟩ ∧ wr.drew.cell? ⟨g, k + 1 + i, none⟩ = some (.int .i64 (((upto N).drop (k + 1)).getD i 0)) from fun i hi => by
          refine ⟨by rw [hAd.out, if_neg (by omega)], (Hc.out (k + 1 + i) (by omega)).trans ?_⟩
          simp [List.getD])
        clear hkN hcp
        go_region_held3 (fun w' => True) (trivial) ((first | (refine step_append_ints (xs := []) (ys := (upto N).take k) (K := fun _ => False) (B := wr.heap.size) (v := .slice none 0 0) (Lst.nil _ _ _) T1.out T2.out rfl (.const (.slice none 0 0)) (.tmp 55) (by rfl) (by rfl) ⟨g, 0, none⟩ k cp (by rfl) T3.out T4.out T5.out ?_; intro v1 w5 Kx hp1) | (refine step_append_ints (xs := (upto N).take k) (ys := (upto N).drop (k + 1)) (B := wr.heap.size) hp1.lst (fun b hb => (hp1.new b hb).1) (Nat.le_trans T2.out hp1.size) rfl (.tmp 56) (.tmp 60) (by rfl) (by rfl) ad2 (N - (k + 1)) (cp - (k + 1)) (by rw [hAd.out]; simp [Act.eval]; split <;> rfl) T6.out (by rw [T3.out]; exact T8.out) (fun i hi => by obtain ⟨h6, h7⟩ := T7.out i hi; rw [h6, Addr.add_lit]; exact (World.cell?_of_block (w := wr.drew) (hp1.same g Hg.out fun e => e)).trans h7) ?_; intro v2 w6 Ky hp2)))
        go_wp2_with fail
        all_goals
          try (have hq : cp = k + 1 := by assumption
               subst hq)
          go_meet
          case rel => exact ⟨Ky, hp2.lst, (Below.refl _ wr).drew.trans (hp1.below.trans hp2.below)⟩
      case rest =>
        obtain ⟨Kx, hlx, hbx⟩ := hcut
        have hok := Lf_ok (n := 20) (by decide) (by decide) N (by have := HN.out; omega)
        have Hok := Lib.hid hok
        have DC := Lib.hid (D.out.below hbx)
        have hcg := (hbx.cell (p := ⟨g, k, none⟩) (show g < _ from cells_lt (Hc.out 0 (by omega)))).trans (Hc.out k (by omega))
        have hgd : (upto N).getD k 0 = (k : Int) + 1 := by simp [upto, List.getD, hkN]
        rw [hgd] at hcg
        have HCG := Lib.hid hcg
        clear hok hbx hcg hgd Hc D hkN hcp
        cases more
        · obtain ⟨al, cl_, rfl⟩ := hlx.slice
          obtain ⟨m, hm⟩ : ∃ m, (less N k).length = m := ⟨_, rfl⟩
          rw [hm] at hlx ⊢
          clear hm
          have H1 := Lib.hid (leaks_is (held := less N k) DC.out.ars (Hok.out.fit (by have := HN.out; omega)) (show 20 ≤ 100000 by omega) hlx.ints (by unfold less; rw [List.length_append, List.length_take, List.length_drop, upto_len]; have := HN.out; omega))
          have Hlx := Lib.hid hlx
          clear hlx
          go_wp2_with fail
          refine H1.out.mono ?_
          clear H1
          rintro e w6 ⟨v6, ys, K6, rfl, hl6, hk6, hy6, hb6⟩
          rw [leaks_less (by have := HN.out; omega) HkN.out hy6] at hl6
          obtain ⟨g6, c6, hs6, hc6, hKg6, hcl6⟩ := hl6.at_ (i := 0) (by simp)
          have HK6 := Lib.hid (show ¬ Kl g6 from fun e => by have := DC.out.ars.lt g6 (DC.out.sub g6 e); have := (hk6 g6 hKg6).1; omega)
          clear hk6 hKg6
          subst hs6
          have hz6 : w6.cell? ⟨g6, 0, none⟩ = some (.int .i64 ((k : Int) + 1)) := hcl6 0 (by simp)
          have D6 := Lib.hid (DC.out.below hb6)
          have L6 := Lib.hid (Hlx.out.of_below (hb6.mono (Nat.le_refl _)))
          have hc6 : w6.cell? ⟨g, k, none⟩ = some (.int .i64 ((k : Int) + 1)) := (hb6.cell (p := ⟨g, k, none⟩) (show g < _ from by have := block_lt_of_cell HCG.out; exact this)).trans HCG.out
          have hg6 : g < w6.heap.size := block_lt_of_cell hc6
          have hgl6 : g6 < w6.heap.size := block_lt_of_cell hz6
          have Hle := Lib.hid (show (N : Int) ≤ 20 ∧ N ≤ 20 by have := HN.out; omega)
          have HA1 : ∀ W, Below w6.heap.size w6 W → Hid (Calls Try.prog 36 #[.pointer (some ⟨p, 0, none⟩), .slice (some ⟨g, 0, none⟩) N cp] W fun e w' => e = .returned (.bool true) ∧ Below W.heap.size W w') := fun W hW => by
            have d := D6.out.below hW
            have a := d.lst.ints
            exact Lib.hid (audit_w (b := true) (held := upto N) (lie_none (n := 20) (by have := HN.out; omega) Hok.out) d.ars Hok.out (by have := HN.out; omega) (acc_Lf (by have := HN.out; omega)) a (by rw [upto_len]; have := HN.out; omega) (fun x hx => by have := mem_upto.1 hx; have := HN.out; omega))
          have HA2 : ∀ W, Below w6.heap.size w6 W → Hid (Calls Try.prog 36 #[.pointer (some ⟨p, 0, none⟩), .slice al m cl_] W fun e w' => e = .returned (.bool false) ∧ Below W.heap.size W w') := fun W hW => by
            have d := D6.out.below hW
            exact Lib.hid (audit_w (b := false) (held := less N k) (lie_less (n := 20) (by have := HN.out; omega) HkN.out Hok.out) d.ars Hok.out (by have := HN.out; omega) (acc_Lf (by have := HN.out; omega)) (L6.out.ints.below hW) (by unfold less; rw [List.length_append, List.length_take, List.length_drop, upto_len]; have := HN.out; omega) (fun x hx => by have := (less_mem HkN.out).1 hx; have := HN.out; omega))
          have HD := Lib.hid (fun W (h : Below w6.heap.size w6 W) => D6.out.below h)
          have Lz := Lib.hid (show (upto N).length + 2 ≤ 1000000000 by rw [upto_len]; have := HN.out; omega)
          have HA3 : ∀ W, Below w6.heap.size w6 W → ∀ W3 v3 Kz, PushedS W W3 w.heap.size Kl Kz v3 (upto N ++ [0, 0]) → Hid (Calls Try.prog 36 #[.pointer (some ⟨p, 0, none⟩), v3] W3 fun e w' => e = .returned (.bool true) ∧ Below W3.heap.size W3 w') := fun W hW W3 v3 Kz hp => by
            have d := D6.out.below hW
            exact Lib.hid (audit_w (b := true) (held := upto N ++ [0, 0]) (lie_zeros (n := 20) (by have := HN.out; omega) Hok.out) (d.ars.kept hp.size fun x hx hk => hp.same x hx fun e => hk (d.sub x e)) Hok.out (by have := HN.out; omega) (acc_Lf (by have := HN.out; omega)) hp.lst.ints (by rw [List.length_append, upto_len]; have := HN.out; simp; omega) (fun x hx => by
              rcases List.mem_append.1 hx with h | h
              · have := mem_upto.1 h; have := HN.out; omega
              · have : x = 0 := by simpa using h
                omega))
          have HA3 := Lib.hid HA3
          have HGD := Lib.hid (show (upto N).getD k 0 = (k : Int) + 1 by have := HkN.out; simp [upto, List.getD, this])
          have ZK := Lib.hid (fun (W W3 : World) (v3 : Value) (Kz : Nat → Prop) (hp : PushedS (W.alloc (.cells #[.int .i64 0, .int .i64 0] 3)) W3 w.heap.size Kl Kz v3 (upto N ++ [0, 0])) (hz : W.cell? ⟨g6, 0, none⟩ = some (.int .i64 ((k : Int) + 1))) => show W3.cell? ⟨g6, 0, none⟩ = some (.int .i64 ((k : Int) + 1)) from by
            have hb := block_lt_of_cell hz
            have hz' := (((Below.refl _ W).alloc (Nat.le_refl _) (.cells #[.int .i64 0, .int .i64 0] 3)).cell (p := ⟨g6, 0, none⟩) hb).trans hz
            exact (World.cell?_of_block (hp.same g6 (block_lt_of_cell hz') HK6.out)).trans hz')
          have HA1 := Lib.hid HA1
          have HA2 := Lib.hid HA2
          have ki0 : (0 : Int) ≤ (k : Int) := by omega
          have ki1 : (k : Int) < (N : Int) := by have := HkN.out; omega
          have hcpN : (N : Int) ≤ (cp : Int) := by have := Hcp.out; omega
          clear hl6 hy6 hb6 hcl6
          go_upto_region 19 with fail
          go_region_held3 (fun w' => w'.cell? ⟨g, k, none⟩ = some (.int .i64 ((k : Int) + 1)) ∧ w'.cell? ⟨g6, 0, none⟩ = some (.int .i64 ((k : Int) + 1))) (go_keep) ((first | (go_at_call 36; refine (HA3.out _ B9.out _ _ _ hp3).out.mono ?_; rintro e w10 ⟨rfl, k10⟩; have c10 : w10.cell? ⟨g, k, none⟩ = some (.int .i64 ((k : Int) + 1)) := (k10.cell (p := ⟨g, k, none⟩) (block_lt_of_cell c9)).trans c9; have z10 : w10.cell? ⟨g6, 0, none⟩ = some (.int .i64 ((k : Int) + 1)) := (k10.cell (p := ⟨g6, 0, none⟩) (block_lt_of_cell z9)).trans z9) | (go_at_call 36; refine (HA2.out _ B7.out).out.mono ?_; rintro e w8 ⟨rfl, k8⟩; have B8 := Lib.hid (B7.out.trans (k8.mono B7.out.size)); have c8 : w8.cell? ⟨g, k, none⟩ = some (.int .i64 ((k : Int) + 1)) := (B8.out.cell (p := ⟨g, _, none⟩) hg6).trans hc6; have z8 : w8.cell? ⟨g6, 0, none⟩ = some (.int .i64 ((k : Int) + 1)) := (B8.out.cell (p := ⟨g6, _, none⟩) hgl6).trans hz6; clear k8) | (go_at_call 36; refine (HA1.out _ (Below.refl _ _).drew).out.mono ?_; rintro e w7 ⟨rfl, k7⟩; have c7 : w7.cell? ⟨g, k, none⟩ = some (.int .i64 ((k : Int) + 1)) := (k7.cell (p := ⟨g, _, none⟩) hg6).trans hc6; have z7 : w7.cell? ⟨g6, 0, none⟩ = some (.int .i64 ((k : Int) + 1)) := (k7.cell (p := ⟨g6, _, none⟩) hgl6).trans hz6; have B7 := Lib.hid (Below.trans (Below.refl _ _).drew k7); clear k7) | (refine step_append_keep (xs := upto N) (ys := [0, 0]) (K := Kl) (B := w.heap.size) (by first | rfl | decide | simp [Region.wanted, yielded]) (upto_len N) (HD.out _ (B8.out.alloc B8.out.size (.cells #[.int .i64 0, .int .i64 0] 3))).lst (fun b hb => (HD.out _ (B8.out.alloc B8.out.size (.cells #[.int .i64 0, .int .i64 0] 3))).ars.lt b ((HD.out _ (B8.out.alloc B8.out.size (.cells #[.int .i64 0, .int .i64 0] 3))).sub b hb)) (HD.out _ (B8.out.alloc B8.out.size (.cells #[.int .i64 0, .int .i64 0] 3))).bel.size (.tmp 105) (.tmp 106) (by rfl) (by rfl) ⟨w8.heap.size, 0, none⟩ 2 2 (by rfl) (by rfl) Lz.out (cells_zero w8 3) ?_; intro v3 w9 Kz hp3 hkp3; have c9 : w9.cell? ⟨g, k, none⟩ = some (.int .i64 ((k : Int) + 1)) := (hkp3 k HkN.out).trans (by rw [HGD.out]); have z9 : w9.cell? ⟨g6, 0, none⟩ = some (.int .i64 ((k : Int) + 1)) := ZK.out _ _ _ _ hp3 z8; have B9 := Lib.hid (B8.out.alloc B8.out.size (.cells #[.int .i64 0, .int .i64 0] 3)))))
          have hfin : Below w.heap.size w w10 := (D6.out.bel.trans (B9.out.mono D6.out.bel.size)).trans (hp3.below.trans (k10.mono (Nat.le_trans (Nat.le_trans D6.out.bel.size B9.out.size) hp3.size)))
          clear c9 z9 c10 z10 hp3 k10
          go_wp2_with fail
          go_ret
          exact ⟨rfl, hfin⟩
        · clear hlx
          have HH := Lib.hid (fun (W : World) (hb : Below wc.heap.size wc W) i (hi : i < N) => show W.cell? ((⟨g, 0, none⟩ : Addr).add i) = some (.int .i64 ((upto N).getD i 0)) from by
            obtain ⟨g', c', e1, _, _, hc'⟩ := DC.out.lst.at_ (i := 0) (by rw [upto_len]; have := HkN.out; omega)
            have : g' = g := by injection e1 with e1; injection e1 with e1; injection e1 with e1; exact e1.symm
            subst this
            rw [Addr.add_lit, Nat.zero_add]
            have h1 := hc' i (by rw [upto_len]; exact hi)
            exact (hb.cell (p := ⟨g', i, none⟩) (block_lt_of_cell h1)).trans h1)
          have LN := Lib.hid (show (upto N).length = N from upto_len N)
          have L4 := Lib.hid (show ([] : List Int).length + N ≤ 1000000000 by have := HN.out; simp; omega)
          have L5 := Lib.hid (show (upto N).length + 1 ≤ 1000000000 by rw [upto_len]; have := HN.out; omega)
          have T1 := Lib.hid (show ∀ b : Nat, (fun _ : Nat => False) b → b < wc.drew.heap.size from fun b hb => hb.elim)
          have ki0 : (0 : Int) ≤ (k : Int) := by omega
          have ki1 : (k : Int) < (N : Int) := by have := HkN.out; omega
          have hcpN : (N : Int) ≤ (cp : Int) := by have := Hcp.out; omega
          have hcg : wc.cell? ⟨g, k, none⟩ = some (.int .i64 ((k : Int) + 1)) := HCG.out
          have hgw : g < wc.heap.size := block_lt_of_cell hcg
          have L6 := Lib.hid (show (upto N).length + 1 ≤ 1000000000 from L5.out)
          have S0 := Lib.hid (fun o : Obj => show wc.heap.size ≤ (wc.drew.alloc o).heap.size from by simp)
          have S1 := Lib.hid (fun o : Obj => HH.out (wc.drew.alloc o) ((Below.refl wc.heap.size wc).drew.alloc (Nat.le_refl _) o))
          go_upto_region 17 with fail
          go_cut [13] (fun v W => ∃ Kx : Nat → Prop, Lst W wc.heap.size Kx v (upto N ++ [(k : Int) + 1]) ∧ Below wc.heap.size wc W)
          case first =>
            go_region_held3 (fun w' => w'.cell? ⟨g, k, none⟩ = some (.int .i64 ((k : Int) + 1))) (go_keep) ((first | (have tA := A5; refine step_append_ints (xs := upto N) (ys := [(k : Int) + 1]) (B := wc.heap.size) (A5.out.2.2.2.1 _) (A5.out.2.2.2.2.1 _) (A5.out.2.2.2.2.2.1 _) rfl (.tmp 64) (.tmp 69) (by rfl) (by rfl) ⟨w5.heap.size, 0, none⟩ 1 1 (by rfl) rfl L5.out (A5.out.2.2.2.2.2.2.1 3 _) ?_; intro v2 w6 Ky hp2; have c6 : w6.cell? ⟨g, k, none⟩ = some (.int .i64 ((k : Int) + 1)) := (hp2.below.cell (p := ⟨g, k, none⟩) hgw).trans (A5.out.2.2.2.2.2.2.2 _); have B6 := Lib.hid ((A5.out.2.2.1.alloc (A5.out.2.2.1).size _).trans hp2.below)) | (have tE := E5; refine step_append_ints (xs := upto N) (ys := [(k : Int) + 1]) (B := wc.heap.size) hp3.lst (fun b hb => (hp3.new b hb).1) E5.out.2.2.2.1 rfl (.tmp 64) (.tmp 69) (by rfl) (by rfl) ⟨wc.heap.size, 0, none⟩ 1 1 (by rfl) rfl L6.out E5.out.2.2.2.2 ?_; intro v2 w6 Ky hp2; have c6 : w6.cell? ⟨g, k, none⟩ = some (.int .i64 ((k : Int) + 1)) := (hp2.below.cell (p := ⟨g, k, none⟩) hgw).trans E5.out.1; have B6 := Lib.hid (E5.out.2.2.1.trans hp2.below)) | (refine step_append_ints (xs := []) (ys := upto N) (K := fun _ => False) (B := wc.heap.size) (v := .slice none 0 0) (Lst.nil _ _ _) T1.out (Nat.le_refl _) rfl (.const (.slice none 0 0)) (.tmp 63) (by rfl) (by rfl) ⟨g, 0, none⟩ N cp (by rfl) LN.out L4.out (HH.out _ (Below.refl _ _).drew) ?_; intro v1 w5 Kx hp1; have A5 := Lib.hid (after_one hp1 hgw hcg); have c5 := A5.out.1; have hg5 := A5.out.2.1) | (refine step_append_ints (xs := []) (ys := upto N) (K := fun _ => False) (B := wc.heap.size) (v := .slice none 0 0) (Lst.nil _ _ _) (fun b hb => hb.elim) (S0.out _) rfl (.const (.slice none 0 0)) (.tmp 63) (by rfl) (by rfl) ⟨g, 0, none⟩ N cp (by rfl) LN.out L4.out (S1.out _) ?_; intro v1 w5 Kx hp3; have E5 := Lib.hid (after_two hp3 hgw hcg); have c5 := E5.out.1; have hg5 := E5.out.2.1)))
            all_goals
              go_wp2_with fail
              go_meet
              case rel => exact ⟨Ky, hp2.lst, B6.out⟩
          case rest =>
          obtain ⟨Ky, hlx, hbx⟩ := hcut
          have DE := Lib.hid (DC.out.below hbx)
          clear hbx DC HH LN L4 L5 L6 T1 S0 S1 hcg hgw HCG
          obtain ⟨al, cl_, rfl⟩ := hlx.slice
          obtain ⟨m, hm⟩ : ∃ m, (upto N ++ [(k : Int) + 1]).length = m := ⟨_, rfl⟩
          rw [hm] at hlx ⊢
          clear hm
          have H1 := Lib.hid (leaks_is (held := upto N ++ [(k : Int) + 1]) DE.out.ars (Hok.out.fit (by have := HN.out; omega)) (show 20 ≤ 100000 by omega) hlx.ints (by rw [List.length_append, upto_len]; have := HN.out; simp; omega))
          have Hlx := Lib.hid hlx
          clear hlx
          go_wp2_with fail
          refine H1.out.mono ?_
          clear H1
          rintro e w6 ⟨v6, ys, K6, rfl, hl6, hk6, hy6, hb6⟩
          rw [leaks_more (by have := HN.out; omega) hy6] at hl6
          obtain ⟨a6, c6, hs6⟩ := hl6.slice
          have hs6 : v6 = .slice a6 0 c6 := hs6
          subst hs6
          have D6 := Lib.hid (DE.out.below hb6)
          have L6 := Lib.hid (Hlx.out.of_below (hb6.mono (Nat.le_refl _)))
          have Hle := Lib.hid (show (N : Int) ≤ 20 ∧ N ≤ 20 by have := HN.out; omega)
          have HA1 : ∀ W, Below w6.heap.size w6 W → Hid (Calls Try.prog 36 #[.pointer (some ⟨p, 0, none⟩), .slice (some ⟨g, 0, none⟩) N cp] W fun e w' => e = .returned (.bool true) ∧ Below W.heap.size W w') := fun W hW => by
            have d := D6.out.below hW
            have a := d.lst.ints
            exact Lib.hid (audit_w (b := true) (held := upto N) (lie_none (n := 20) (by have := HN.out; omega) Hok.out) d.ars Hok.out (by have := HN.out; omega) (acc_Lf (by have := HN.out; omega)) a (by rw [upto_len]; have := HN.out; omega) (fun x hx => by have := mem_upto.1 hx; have := HN.out; omega))
          have HA2 : ∀ W, Below w6.heap.size w6 W → Hid (Calls Try.prog 36 #[.pointer (some ⟨p, 0, none⟩), .slice al m cl_] W fun e w' => e = .returned (.bool false) ∧ Below W.heap.size W w') := fun W hW => by
            have d := D6.out.below hW
            exact Lib.hid (audit_w (b := false) (held := upto N ++ [(k : Int) + 1]) (lie_more (n := 20) (by have := HN.out; omega) HkN.out Hok.out) d.ars Hok.out (by have := HN.out; omega) (acc_Lf (by have := HN.out; omega)) (L6.out.ints.below hW) (by rw [List.length_append, upto_len]; have := HN.out; simp; omega) (fun x hx => by
              rcases List.mem_append.1 hx with h | h
              · have := mem_upto.1 h; have := HN.out; omega
              · have : x = (k : Int) + 1 := by simpa using h
                have := HkN.out; have := HN.out; omega))
          have HD := Lib.hid (fun W (h : Below w6.heap.size w6 W) => D6.out.below h)
          have Lz := Lib.hid (show (upto N).length + 2 ≤ 1000000000 by rw [upto_len]; have := HN.out; omega)
          have HA3 : ∀ W, Below w6.heap.size w6 W → ∀ W3 v3 Kz, PushedS W W3 w.heap.size Kl Kz v3 (upto N ++ [0, 0]) → Hid (Calls Try.prog 36 #[.pointer (some ⟨p, 0, none⟩), v3] W3 fun e w' => e = .returned (.bool true) ∧ Below W3.heap.size W3 w') := fun W hW W3 v3 Kz hp => by
            have d := D6.out.below hW
            exact Lib.hid (audit_w (b := true) (held := upto N ++ [0, 0]) (lie_zeros (n := 20) (by have := HN.out; omega) Hok.out) (d.ars.kept hp.size fun x hx hk => hp.same x hx fun e => hk (d.sub x e)) Hok.out (by have := HN.out; omega) (acc_Lf (by have := HN.out; omega)) hp.lst.ints (by rw [List.length_append, upto_len]; have := HN.out; simp; omega) (fun x hx => by
              rcases List.mem_append.1 hx with h | h
              · have := mem_upto.1 h; have := HN.out; omega
              · have : x = 0 := by simpa using h
                omega))
          have HA3 := Lib.hid HA3
          have HA1 := Lib.hid HA1
          have HA2 := Lib.hid HA2
          clear hl6 hy6 hb6 hk6
          go_upto_region 19 with fail
          refine wp_region_held_drew (S := fun _ => True) (by kernel_rfl) trivial (fun _ => ?_)
          refine takeW (i := 0) (v := .pointer (some ⟨p, 0, none⟩)) (d := some 74) rfl rfl (by kernel_rfl) (by kernel_rfl) (by kernel_rfl) (fun _ _ _ h => h) (by rfl) (fun _ => by rfl) ?_
          try simp only [Act.put, List.setIfInBounds_toArray, List.set_cons_zero, List.set_cons_succ]
          refine takeW (i := 1) (v := .slice (some ⟨g, 0, none⟩) N cp) (d := some 75) rfl rfl (by kernel_rfl) (by kernel_rfl) (by kernel_rfl) (fun _ _ _ h => h) (by rfl) (fun _ => by rfl) ?_
          try simp only [Act.put, List.setIfInBounds_toArray, List.set_cons_zero, List.set_cons_succ]
          refine wpAnyH_ready (rs := [2]) (by kernel_rfl) (by simp) ?_
          refine AllReadyH.cons rfl (fun K hK => ?_) AllReadyH.nil
          go_simp
          go_at_call 36
          refine (HA1.out _ (Below.refl _ _).drew).out.mono ?_
          rintro e w7 ⟨rfl, k7⟩
          have B7 := Lib.hid (Below.trans (Below.refl _ _).drew k7)
          clear k7
          refine hK.out _ _ trivial (fun _ => ?_)
          clear hK K
          try simp only [Act.put, List.setIfInBounds_toArray, List.set_cons_zero, List.set_cons_succ]
          refine takeW (i := 3) (v := .bool true) (d := some 77) rfl rfl (by kernel_rfl) (by kernel_rfl) (by kernel_rfl) (fun _ _ _ h => h) (by rfl) (fun _ => by rfl) ?_
          try simp only [Act.put, List.setIfInBounds_toArray, List.set_cons_zero, List.set_cons_succ]
          refine takeW (i := 4) (v := .pointer (some ⟨p, 0, none⟩)) (d := some 78) rfl rfl (by kernel_rfl) (by kernel_rfl) (by kernel_rfl) (fun _ _ _ h => h) (by rfl) (fun _ => by rfl) ?_
          try simp only [Act.put, List.setIfInBounds_toArray, List.set_cons_zero, List.set_cons_succ]
          refine takeW (i := 5) (v := .slice al m cl_) (d := some 79) rfl rfl (by kernel_rfl) (by kernel_rfl) (by kernel_rfl) (fun _ _ _ h => h) (by rfl) (fun _ => by rfl) ?_
          try simp only [Act.put, List.setIfInBounds_toArray, List.set_cons_zero, List.set_cons_succ]
          refine wpAnyH_ready (rs := [6]) (by kernel_rfl) (by simp) ?_
          refine AllReadyH.cons rfl (fun K hK => ?_) AllReadyH.nil
          go_simp
          go_at_call 36
          refine (HA2.out _ B7.out).out.mono ?_
          rintro e w8 ⟨rfl, k8⟩
          have B8 := Lib.hid (B7.out.trans (k8.mono B7.out.size))
          clear k8
          refine hK.out _ _ trivial (fun _ => ?_)
          clear hK K
          try simp only [Act.put, List.setIfInBounds_toArray, List.set_cons_zero, List.set_cons_succ]
          refine takeW (i := 7) (v := .bool true) (d := some 81) rfl rfl (by kernel_rfl) (by kernel_rfl) (by kernel_rfl) (fun _ _ _ h => h) (by rfl) (fun _ => by rfl) ?_
          try simp only [Act.put, List.setIfInBounds_toArray, List.set_cons_zero, List.set_cons_succ]
          refine takeW (i := 8) (v := .bool true) (d := some 82) rfl rfl (by kernel_rfl) (by kernel_rfl) (by kernel_rfl) (fun _ _ _ h => h) (by rfl) (fun _ => by rfl) ?_
          try simp only [Act.put, List.setIfInBounds_toArray, List.set_cons_zero, List.set_cons_succ]
          refine takeW (i := 9) (v := .bool true) (d := some 83) rfl rfl (by kernel_rfl) (by kernel_rfl) (by kernel_rfl) (fun _ _ _ h => h) (by rfl) (fun _ => by rfl) ?_
          try simp only [Act.put, List.setIfInBounds_toArray, List.set_cons_zero, List.set_cons_succ]
          refine takeW (i := 10) (v := .slice a6 0 c6) (d := some 84) rfl rfl (by kernel_rfl) (by kernel_rfl) (by kernel_rfl) (fun _ _ _ h => h) (by rfl) (fun _ => by rfl) ?_
          try simp only [Act.put, List.setIfInBounds_toArray, List.set_cons_zero, List.set_cons_succ]
          refine takeW (i := 13) (v := .bool true) (d := some 87) rfl rfl (by kernel_rfl) (by kernel_rfl) (by kernel_rfl) (fun _ _ _ h => h) (by rfl) (fun _ => by rfl) ?_
          try simp only [Act.put, List.setIfInBounds_toArray, List.set_cons_zero, List.set_cons_succ]
          refine wpAnyH_ready (rs := [11]) (by kernel_rfl) (by simp) ?_
          refine AllReadyH.cons rfl (fun K hK => ?_) AllReadyH.nil
          go_simp
          refine hK.out _ _ trivial (fun _ => ?_)
          clear hK K
          try simp only [Act.put, List.setIfInBounds_toArray, List.set_cons_zero, List.set_cons_succ]
          refine takeW (i := 12) (v := .bool true) (d := some 86) rfl rfl (by kernel_rfl) (by kernel_rfl) (by kernel_rfl) (fun _ _ _ h => h) (by rfl) (fun _ => by rfl) ?_
          try simp only [Act.put, List.setIfInBounds_toArray, List.set_cons_zero, List.set_cons_succ]
          refine takeW (i := 14) (v := .bool true) (d := some 88) rfl rfl (by kernel_rfl) (by kernel_rfl) (by kernel_rfl) (fun _ _ _ h => h) (by rfl) (fun _ => by rfl) ?_
          try simp only [Act.put, List.setIfInBounds_toArray, List.set_cons_zero, List.set_cons_succ]
          refine takeW (i := 15) (v := .bool true) (d := some 89) rfl rfl (by kernel_rfl) (by kernel_rfl) (by kernel_rfl) (fun _ _ _ h => h) (by rfl) (fun _ => by rfl) ?_
          try simp only [Act.put, List.setIfInBounds_toArray, List.set_cons_zero, List.set_cons_succ]
          refine takeW (i := 16) (v := .bool true) (d := some 90) rfl rfl (by kernel_rfl) (by kernel_rfl) (by kernel_rfl) (fun _ _ _ h => h) (by rfl) (fun _ => by rfl) ?_
          try simp only [Act.put, List.setIfInBounds_toArray, List.set_cons_zero, List.set_cons_succ]
          refine takeW (i := 17) (v := .bool true) (d := some 91) rfl rfl (by kernel_rfl) (by kernel_rfl) (by kernel_rfl) (fun _ _ _ h => h) (by rfl) (fun _ => by rfl) ?_
          try simp only [Act.put, List.setIfInBounds_toArray, List.set_cons_zero, List.set_cons_succ]
          refine takeW (i := 18) (v := .bool true) (d := some 92) rfl rfl (by kernel_rfl) (by kernel_rfl) (by kernel_rfl) (fun _ _ _ h => h) (by rfl) (fun _ => by rfl) ?_
          try simp only [Act.put, List.setIfInBounds_toArray, List.set_cons_zero, List.set_cons_succ]
          refine takeU (i := 19) (d := some 93) rfl rfl (by kernel_rfl) (by kernel_rfl) (by kernel_rfl) (fun _ _ _ h => h) (by rfl) ?_
          try simp only [Act.put, List.setIfInBounds_toArray, List.set_cons_zero, List.set_cons_succ]
          refine takeU (i := 20) (d := some 94) rfl rfl (by kernel_rfl) (by kernel_rfl) (by kernel_rfl) (fun _ _ _ h => h) (by rfl) ?_
          try simp only [Act.put, List.setIfInBounds_toArray, List.set_cons_zero, List.set_cons_succ]
          refine takeU (i := 21) (d := some 95) rfl rfl (by kernel_rfl) (by kernel_rfl) (by kernel_rfl) (fun _ _ _ h => h) (by rfl) ?_
          try simp only [Act.put, List.setIfInBounds_toArray, List.set_cons_zero, List.set_cons_succ]
          refine takeU (i := 22) (d := some 96) rfl rfl (by kernel_rfl) (by kernel_rfl) (by kernel_rfl) (fun _ _ _ h => h) (by rfl) ?_
          try simp only [Act.put, List.setIfInBounds_toArray, List.set_cons_zero, List.set_cons_succ]
          refine takeU (i := 23) (d := some 97) rfl rfl (by kernel_rfl) (by kernel_rfl) (by kernel_rfl) (fun _ _ _ h => h) (by rfl) ?_
          try simp only [Act.put, List.setIfInBounds_toArray, List.set_cons_zero, List.set_cons_succ]
          refine takeU (i := 24) (d := some 98) rfl rfl (by kernel_rfl) (by kernel_rfl) (by kernel_rfl) (fun _ _ _ h => h) (by rfl) ?_
          try simp only [Act.put, List.setIfInBounds_toArray, List.set_cons_zero, List.set_cons_succ]
          refine takeU (i := 25) (d := some 99) rfl rfl (by kernel_rfl) (by kernel_rfl) (by kernel_rfl) (fun _ _ _ h => h) (by rfl) ?_
          try simp only [Act.put, List.setIfInBounds_toArray, List.set_cons_zero, List.set_cons_succ]
          refine takeU (i := 26) (d := some 100) rfl rfl (by kernel_rfl) (by kernel_rfl) (by kernel_rfl) (fun _ _ _ h => h) (by rfl) ?_
          try simp only [Act.put, List.setIfInBounds_toArray, List.set_cons_zero, List.set_cons_succ]
          refine takeW (i := 27) (v := .bool true) (d := some 101) rfl rfl (by kernel_rfl) (by kernel_rfl) (by kernel_rfl) (fun _ _ _ h => h) (by rfl) (fun _ => by rfl) ?_
          try simp only [Act.put, List.setIfInBounds_toArray, List.set_cons_zero, List.set_cons_succ]
          refine takeW (i := 28) (v := .bool true) (d := some 102) rfl rfl (by kernel_rfl) (by kernel_rfl) (by kernel_rfl) (fun _ _ _ h => h) (by rfl) (fun _ => by rfl) ?_
          try simp only [Act.put, List.setIfInBounds_toArray, List.set_cons_zero, List.set_cons_succ]
          refine takeW (i := 29) (v := .bool true) (d := some 103) rfl rfl (by kernel_rfl) (by kernel_rfl) (by kernel_rfl) (fun _ _ _ h => h) (by rfl) (fun _ => by rfl) ?_
          try simp only [Act.put, List.setIfInBounds_toArray, List.set_cons_zero, List.set_cons_succ]
          refine takeW (i := 30) (v := .pointer (some ⟨p, 0, none⟩)) (d := some 104) rfl rfl (by kernel_rfl) (by kernel_rfl) (by kernel_rfl) (fun _ _ _ h => h) (by rfl) (fun _ => by rfl) ?_
          try simp only [Act.put, List.setIfInBounds_toArray, List.set_cons_zero, List.set_cons_succ]
          refine takeW (i := 31) (v := .slice (some ⟨g, 0, none⟩) N cp) (d := some 105) rfl rfl (by kernel_rfl) (by kernel_rfl) (by kernel_rfl) (fun _ _ _ h => h) (by rfl) (fun _ => by rfl) ?_
          try simp only [Act.put, List.setIfInBounds_toArray, List.set_cons_zero, List.set_cons_succ]
          refine wpAnyH_ready (rs := [32]) (by kernel_rfl) (by simp) ?_
          refine AllReadyH.cons rfl (fun K hK => ?_) AllReadyH.nil
          go_simp
          refine hK.out _ _ trivial (fun _ => ?_)
          clear hK K
          try simp only [Act.put, List.setIfInBounds_toArray, List.set_cons_zero, List.set_cons_succ]
          refine wpAnyH_ready (rs := [33]) (by kernel_rfl) (by simp) ?_
          refine AllReadyH.cons rfl (fun K hK => ?_) AllReadyH.nil
          refine step_append_keep (xs := upto N) (ys := [0, 0]) (K := Kl) (B := w.heap.size) (by first | rfl | decide | simp [Region.wanted, yielded]) (upto_len N) (HD.out _ (B8.out.alloc B8.out.size (.cells #[.int .i64 0, .int .i64 0] 3))).lst (fun b hb => (HD.out _ (B8.out.alloc B8.out.size (.cells #[.int .i64 0, .int .i64 0] 3))).ars.lt b ((HD.out _ (B8.out.alloc B8.out.size (.cells #[.int .i64 0, .int .i64 0] 3))).sub b hb)) (HD.out _ (B8.out.alloc B8.out.size (.cells #[.int .i64 0, .int .i64 0] 3))).bel.size (.tmp 105) (.tmp 106) (by rfl) (by rfl) ⟨w8.heap.size, 0, none⟩ 2 2 (by rfl) (by rfl) Lz.out (cells_zero w8 3) ?_
          intro v3 w9 Kz hp3 hkp3
          have B9 := Lib.hid (B8.out.alloc B8.out.size (.cells #[.int .i64 0, .int .i64 0] 3))
          refine hK.out _ _ trivial (fun _ => ?_)
          clear hK K
          try simp only [Act.put, List.setIfInBounds_toArray]
          refine wpAnyH_ready (rs := [34]) (by kernel_rfl) (by simp) ?_
          refine AllReadyH.cons rfl (fun K hK => ?_) AllReadyH.nil
          go_simp
          go_at_call 36
          refine (HA3.out _ B9.out _ _ _ hp3).out.mono ?_
          rintro e w10 ⟨rfl, k10⟩
          refine hK.out _ _ trivial (fun _ => ?_)
          clear hK K
          try simp only [Act.put, List.setIfInBounds_toArray, List.set_cons_zero, List.set_cons_succ]
          refine takeW (i := 35) (v := .bool true) (d := some 109) rfl rfl (by kernel_rfl) (by kernel_rfl) (by kernel_rfl) (fun _ _ _ h => h) (by rfl) (fun _ => by rfl) ?_
          try simp only [Act.put, List.setIfInBounds_toArray, List.set_cons_zero, List.set_cons_succ]
          refine takeW (i := 36) (v := .bool true) (d := some 6) rfl rfl (by kernel_rfl) (by kernel_rfl) (by kernel_rfl) (fun _ _ _ h => h) (by rfl) (fun _ => by rfl) ?_
          try simp only [Act.put, List.setIfInBounds_toArray, List.set_cons_zero, List.set_cons_succ]
          refine wpAnyH_done (by kernel_rfl) ?_ _
          have hfin : Below w.heap.size w w10 := (D6.out.bel.trans (B9.out.mono D6.out.bel.size)).trans (hp3.below.trans (k10.mono (Nat.le_trans (Nat.le_trans D6.out.bel.size B9.out.size) hp3.size)))
          clear hp3 k10
          go_wp2_with fail
          go_ret
          exact ⟨rfl, hfin⟩

set_option maxRecDepth 100000 in
theorem lifted (os : Os) (started : os.Started) (H : Type) (enc : TypeId × Value → H) :
    ReturnsInHanded {} Try.checked os 9 .any (Rows.sweepLiesSpec.pre6 enc Try.prog Try.f9 Rows.sweepLiesRow.domain false) (Rows.sweepLiesSpec.post enc Try.prog Try.f9 false true false false) := by
  refine returnsInHanded_of_change (C := Try.checked) own_ started (by kernel_rfl) Try.func9
    (ChangeSpec.witness6 (enc := enc) (C := Try.checked) false ⟨#[], #[.int .i64 0, .int .i64 0, .bool false], []⟩ 8 (by kernel_rfl) (by kernel_rfl) (by kernel_rfl) (by kernel_rfl)) ?_
  intro W base args ds gs before hval0 hW _ _
  have hval : ∀ (j : Nat) t v, Try.f9.params[j]? = some t → args[j]? = some v → Value.okWide Try.prog W .any base t v := hval0
  have hW' := hW
  obtain ⟨p, q, hA0, hV, rfl, hfz, hnd⟩ := hW
  have hA : DataW.TrodAll enc Try.prog W 0 (fun _ => true) true Try.f9.params.toList args.toList ds p := hA0
  rw [Try.params9] at hA hval
  obtain ⟨v0, vs0, d0, ds0, p0, q0, hargs, rfl, rfl, h0, r0⟩ := trodAll_cons hA
  obtain ⟨v1, vs1, d1, ds1, p1, q1, rfl, rfl, rfl, h1, r1⟩ := trodAll_cons r0
  obtain ⟨v2, vs2, d2, ds2, p2, q2, rfl, rfl, rfl, h2, r2⟩ := trodAll_cons r1
  obtain ⟨rfl, rfl, rfl⟩ := trodAll_nil r2
  obtain rfl : args = #[v0, v1, v2] := by cases args; simp_all
  obtain ⟨a0, rfl, rfl, rfl, w0⟩ := open_int Try.underlying3 (hval 0 3 v0 rfl rfl) h0
  obtain ⟨a1, rfl, rfl, rfl, w1⟩ := open_int Try.underlying3 (hval 1 3 v1 rfl rfl) h1
  obtain ⟨a2, rfl, rfl, rfl⟩ := open_bool Try.underlying4 (hval 2 4 v2 rfl rfl) h2
  clear hA0 hval0
  refine (walk a0 w0 a1 w1 a2 W ).mono fun e W' ⟨he, hg⟩ => ?_
  subst he
  exact ⟨_, rfl, law_post laid_ (by kernel_rfl) rfl hW' hg rfl Try.underlying4 ⟨rfl, rfl, rfl⟩⟩

theorem over : Rows.sweepLiesRow.holds Try.pinned (OpenSpec.ofChange Rows.sweepLiesSpec) :=
  OpenClaim.holds_of_wide 9 Try.f9 rfl rfl rfl rfl rfl rfl rfl ⟨rfl, rfl, rfl, rfl, rfl⟩ rfl rfl rfl rfl rfl (by kernel_rfl) Try.func9 (by kernel_rfl)
    (of_decide_eq_true (by kernel_rfl)) (by unfold Func.isWrapper; first | (rw [if_pos (by decide +kernel)]; kernel_rfl) | (rw [if_neg (by decide +kernel)]; exact ⟨rfl, rfl⟩))
    (fun os started H enc _ => lifted os started H enc)

theorem proved : Rows.SweepLiesSaid :=
  over
#print axioms proved
end Go.Proofs.Ytjndhjmbdhfclaa.sweepLies
