/- Work frees so many of those that wait as it is told. -/
import Derived.Test.YtcdmebjggdhhdaaA4
import Derived.Test.YtcdmebjggdhhdaaA2
namespace Go.Proofs.Ytcdmebjggdhhdaa
open Go.RowKit
/-- A scope whose label is jumped to: the way from its beginning to the label, and what stands behind the label once. -/
theorem wp_scope_label {P : Program} {a : Act} {w : World} {Q : Exit → Act → World → Prop} {c rest : Code} (l : Nat) (J : Act → World → Prop) (μ : Act → World → Nat) (hf : findLabel c l = some (Code.skip.seq rest))
    (pass : ∀ a w, J a w → rest.wp P (Exit.jump l (fun a' w' => J a' w' ∧ μ a' w' < μ a w) Q) a w)
    (first : Hid (∀ a w, J a w → rest.wp P (Exit.jump l J Q) a w) → c.wp P (Exit.jump l J Q) a w) : (Code.scope c).wp P Q a w :=
  wp_scope_jumps l J μ hf (first fun a w h => wp_mono (pass a w h) fun e a' w' q => by
    cases e <;> simp_all [Exit.jump]) fun a w h => wp_seq (wp_skip (pass a w h))
/-- Behind the first m kids. -/
structure WorkIn (K : Nat → Prop) (p : Nat) (t : Ar) (i : Int) (r : List Int) (m : Nat) (W W' : World) : Prop where
  ars : Ars W' K p ((t.pop i r).drops ((t.nd i.toNat).kids.take m))
  kept : Kept K W W'
theorem WorkIn.next {K : Nat → Prop} {p : Nat} {t : Ar} {i : Int} {r : List Int} {m : Nat} {y : Int} {W W' W2 : World} (h : WorkIn K p t i r m W W') (hy : (t.nd i.toNat).kids[m]? = some y)
    (ha : Ars W2 K p (((t.pop i r).drops ((t.nd i.toNat).kids.take m)).drop y).1) (hk : Kept K W' W2) : WorkIn K p t i r (m + 1) W W2 := by
  refine ⟨?_, h.kept.trans hk⟩
  rw [List.take_add_one, hy]
  simpa [Ar.drops] using ha
/-- At the label: k are freed, t is left. -/
structure WorkAt (K : Nat → Prop) (p : Nat) (s t : Ar) (B most : Int) (k : Nat) (w W : World) : Prop where
  ars : Ars W K p t
  ok : t.Ok B
  kept : Kept K w W
  km : (k : Int) ≤ max most 0
  e1 : (s.work most.toNat).1 = (t.work (most.toNat - k)).1
  e2 : (s.work most.toNat).2 = k + (t.work (most.toNat - k)).2
theorem WorkAt.next {K : Nat → Prop} {p : Nat} {s t : Ar} {B most : Int} {k : Nat} {i : Int} {r : List Int} {w W W' : World} (h : WorkAt K p s t B most k w W) (hw : t.wt = i :: r) (hk : (k : Int) < most) (hi : WorkIn K p t i r 4 W W') :
    WorkAt K p s (t.free1 i r) B most (k + 1) w W' := by
  have e : most.toNat - k = (most.toNat - (k + 1)) + 1 := by omega
  have e1 := h.e1
  have e2 := h.e2
  rw [e] at e1 e2
  simp only [Ar.work, hw] at e1 e2
  exact ⟨hi.ars, ok_free1 h.ok hw, h.kept.trans hi.kept, by omega, e1, by rw [e2]; omega⟩
def WorkJ (K : Nat → Prop) (p : Nat) (s : Ar) (B most : Int) (w : World) (a : Act) (W : World) : Prop :=
  ∃ (k : Nat) (t : Ar) (u2 u3 u4 u6 u7 u8 u9 u10 u11 u12 u13 u14 u15 u16 u17 u18 u19 u20 u21 u22 u23 u24 u25 u26 u27 u28 u29 u30 u31 u32 u33 u34 u35 u36 u37 u38 u39 u40 u41 u42 u43 u44 u45 u46 u47 u48 u49 u50 u51 u52 u53 u54 u55 u56 u57 u58 u59 u60 u61 u62 u63 u64 u65 u66 u67 u68 u69 u70 : Value), a = { tmps := #[.pointer (some ⟨p, 0, none⟩), .int .i64 most, u2, u3, u4, .int .i64 k, u6, u7, u8, u9, u10, u11, u12, u13, u14, u15, u16, u17, u18, u19, u20, u21, u22, u23, u24, u25, u26, u27, u28, u29, u30, u31, u32, u33, u34, u35, u36, u37, u38, u39, u40, u41, u42, u43, u44, u45, u46, u47, u48, u49, u50, u51, u52, u53, u54, u55, u56, u57, u58, u59, u60, u61, u62, u63, u64, u65, u66, u67, u68, u69, u70], defers := [] } ∧ WorkAt K p s t B most k w W
set_option maxRecDepth 100000 in
set_option maxHeartbeats 1000000 in
theorem work_any (K : Nat → Prop) (p : Nat) (s : Ar) (B : Int) (w : World) (most : Int) (h : Ars w K p s) (hf : s.Ok B) (hB : B ≤ 1000000000000) (hmost : most ≤ 9223372036854775807) :
    Calls Try.prog 12 #[.pointer (some ⟨p, 0, none⟩), .int .i64 most] w fun e w' => e = .returned (.int .i64 (s.work most.toNat).2) ∧ Ars w' K p (s.work most.toNat).1 ∧ Kept K w w' := by
  have H0 : WorkAt K p s s B most 0 w w := ⟨h, hf, Kept.refl _ _, by omega, by simp, by simp⟩
  have H0' := Lib.hid H0
  clear H0 h hf
  go_enter Try.func12, Try.ntmps12
  go_wp2_with fail
  refine wp_scope_label 0 (WorkJ K p s B most w) (fun a' _ => (most - intOf (a'.tmps.getD 5 undef)).toNat) rfl ?pass ?first
  case first =>
    intro hp
    go_wp2_with fail
    go_step3
    rename_i K hK
    exact hK _ _ (hp.out _ _ ⟨0, s, _, _, _, _, _, _, _, _, _, _, _, _, _, _, _, _, _, _, _, _, _, _, _, _, _, _, _, _, _, _, _, _, _, _, _, _, _, _, _, _, _, _, _, _, _, _, _, _, _, _, _, _, _, _, _, _, _, _, _, _, _, _, _, _, _, _, _, _, rfl, H0'.out⟩)
  case pass =>
    rintro a' W ⟨k, t, u2, u3, u4, u6, u7, u8, u9, u10, u11, u12, u13, u14, u15, u16, u17, u18, u19, u20, u21, u22, u23, u24, u25, u26, u27, u28, u29, u30, u31, u32, u33, u34, u35, u36, u37, u38, u39, u40, u41, u42, u43, u44, u45, u46, u47, u48, u49, u50, u51, u52, u53, u54, u55, u56, u57, u58, u59, u60, u61, u62, u63, u64, u65, u66, u67, u68, u69, u70, rfl, hk⟩
    clear H0'
    have HP := Lib.hid (pending_any K p t W hk.ars)
    have HK := Lib.hid hk
    have hkm := hk.km
    clear hk
    by_cases k1 : most ≤ k
    · go_wp2_with fail
      simp only [Exit.jump]
      go_ret
      have hk := HK.out
      have e : most.toNat - k = 0 := by omega
      have e1 := hk.e1
      have e2 := hk.e2
      rw [e] at e1 e2
      refine ⟨?_, ?_, hk.kept⟩
      · rw [e2]; rfl
      · rw [e1]; exact hk.ars
    · cases hw : t.wt with
      | nil =>
        have HW := Lib.hid hw
        have HP := HP.out
        rw [hw] at HP
        replace HP := Lib.hid HP
        clear hw
        go_wp2_with (go_at_call 17; refine HP.out.mono ?_; rintro e w' ⟨rfl, rfl⟩)
        simp only [Exit.jump]
        go_ret
        have hk := HK.out
        have e : t.work (most.toNat - k) = (t, 0) := by
          cases most.toNat - k with
          | zero => rfl
          | succ m => simp [Ar.work, HW.out]
        have e1 := hk.e1
        have e2 := hk.e2
        rw [e] at e1 e2
        refine ⟨?_, ?_, hk.kept⟩
        · rw [e2]; rfl
        · rw [e1]; exact hk.ars
      | cons i r =>
        have HP := HP.out
        rw [hw] at HP
        replace HP := Lib.hid HP
        have HW := Lib.hid hw
        obtain ⟨N, C, U, wv, hA⟩ := HK.out.ars
        have hwt := hA.hW
        rw [hw] at hwt
        obtain ⟨i1, i2, i3, i4⟩ := HK.out.ok.wt i (by rw [hw]; simp)
        have hn := HK.out.ok.n2
        have hbusy := HK.out.ok.busy
        have hus := usedN_le t.n t.u
        have hub := usedN_unset (n := t.n) (u := t.u) (h := i.toNat) (by omega) (by omega) i3
        have hb1 : 1 ≤ t.busy := by omega
        have hb2 : t.busy ≤ 6000 := by omega
        clear hw hbusy hus hub
        have H4 := Lib.hid i4
        have H3 := Lib.hid i3
        clear i4 i3
        obtain ⟨g, off, cap, cs, rfl, n1, n2, n3, n4, n5, n6, n7⟩ : ∃ g off cap cs, wv = .slice (some ⟨g, off, none⟩) (r.length + 1) cap ∧ g ≠ C ∧ ¬ K g ∧ W.heap[g]? = some (.cells cs 3 (0, 0)) ∧ r.length + 1 ≤ cap ∧ off + cap ≤ cs.size ∧ cap ≤ maxLen ∧
            ∀ j, j < (i :: r).length → cs[off + j]? = some (.int .i64 ((i :: r).getD j 0)) := by
          rcases hwt with ⟨_, h⟩ | h
          · cases h
          · exact h
        clear hwt
        have g0 : ((r.length : Int) + 1 == 0) = false := by simp; omega
        have c0 := hA.c0
        have c2 := hA.c2
        have c3 := hA.c3
        have c4 := hA.c4
        have cg : W.cell? ⟨g, off, none⟩ = some (.int .i64 i) := by
          rw [cell_of_row _ _ _ _ _ _ n3]
          exact n7 0 (by simp)
        have f0 := hA.f
        have fN := hA.fN
        have fU := hA.fU
        have cu := hA.used (i := i.toNat) (by omega)
        have b0 := hA.node (i := i.toNat) (j := 0) (by omega) (by omega)
        have b1 := hA.node (i := i.toNat) (j := 1) (by omega) (by omega)
        have b2 := hA.node (i := i.toNat) (j := 2) (by omega) (by omega)
        have b3 := hA.node (i := i.toNat) (j := 3) (by omega) (by omega)
        have b4 := hA.node (i := i.toNat) (j := 4) (by omega) (by omega)
        have b5 := hA.node (i := i.toNat) (j := 5) (by omega) (by omega)
        have b6 := hA.node (i := i.toNat) (j := 6) (by omega) (by omega)
        dsimp only [Nd.cell] at b0 b1 b2 b3 b4 b5 b6
        rw [Nat.add_zero] at b0
        have q3 := blk_ne hA.hU hA.hN (by decide)
        have q4 := blk_ne hA.hN hA.hU (by decide)
        have q7 := blk_ne hA.hp hA.hN (by decide)
        have q9 := blk_ne hA.hp hA.hU (by decide)
        have t1 := blk_ne hA.hN hA.hp (by decide)
        have t3 := blk_ne hA.hU hA.hp (by decide)
        have hps := lt_heap hA.hp
        have hNs := lt_heap hA.hN
        have hUs := lt_heap hA.hU
        have N3 := Lib.hid n3
        have N7 := Lib.hid n7
        have HA := Lib.hid hA
        clear n3 n7 hA
        by_cases hcap : cap = 1
        · subst hcap
          obtain rfl : r = [] := List.length_eq_zero_iff.1 (by omega)
          go_wp2_with (go_at_call 17; refine HP.out.mono ?_; rintro e w' ⟨rfl, rfl⟩)
          go_region
          go_wp2_with fail
          go_loopw [62] (fun j W' => ∃ m : Nat, j = .int .i64 m ∧ m ≤ 4 ∧ WorkIn K p t i [] m W W') (fun j _ => 4 - (intOf j).toNat)
          case atStart =>
            refine ⟨0, rfl, by omega, ⟨?_, ?_⟩⟩
            · have hA := HA.out
              have hW2 : Wait W K C (.slice (some ⟨g, off, none⟩) 0 0) [] :=
                .inr ⟨g, off, 0, cs, rfl, n1, n2, N3.out, Nat.le_refl _, by omega, by omega, fun j hj => by cases hj⟩
              exact ((((((hA.setWait hW2).setN i.toNat Nd.zero).setU i.toNat false).setBusy (t.busy - 1)).alloc _).ars.drew : Ars _ K p (t.pop i []))
            · have hA := HA.out
              exact ((((((((((((Kept.refl K W).setCell (.inl hA.kp) _).setCell (.inl hA.kN) _).setCell (.inl hA.kN) _).setCell (.inl hA.kN) _).setCell (.inl hA.kN) _).setCell (.inl hA.kN) _).setCell (.inl hA.kN) _).setCell (.inl hA.kN) _).setCell (.inl hA.kU) _).setCell (.inl hA.kp) _).alloc _).drew
          case round =>
            obtain ⟨m, rfl, m4, hm⟩ := hrel
            by_cases hlt : m < 4
            · obtain ⟨y, hy, hix⟩ := ix4 (t.nd i.toNat) m hlt
              have Hy := Lib.hid hy
              have hd := Lib.hid (drop_any K p _ _ y hm.ars ((ok_drops _ (ok_pop HK.out.ok HW.out)).fit hB))
              have Hm := Lib.hid hm
              clear hy hm
              go_wp2_with (go_at_call 11; refine hd.out.mono ?_; rintro e w' ⟨rfl, ha, hk⟩)
              go_roundw
              case rel => exact ⟨m + 1, by go_num, by omega, Hm.out.next Hy.out ha hk⟩
              case measure => simp [intOf]; omega
            · obtain rfl : m = 4 := by omega
              have Hm := Lib.hid hm
              clear hm
              go_wp2_with fail
              go_step3
              refine ⟨rfl, ⟨k + 1, t.free1 i [], _, _, _, _, _, _, _, _, _, _, _, _, _, _, _, _, _, _, _, _, _, _, _, _, _, _, _, _, _, _, _, _, _, _, _, _, _, _, _, _, _, _, _, _, _, _, _, _, _, _, _, _, _, _, _, _, _, _, _, _, _, _, _, _, _, _, _, _, rfl, HK.out.next HW.out k1 Hm.out⟩, ?_⟩
              simp [intOf]
              omega
        · have hcap' : 1 < cap := by omega
          go_wp2_with (go_at_call 17; refine HP.out.mono ?_; rintro e w' ⟨rfl, rfl⟩)
          go_region
          go_wp2_with fail
          go_loopw [62] (fun j W' => ∃ m : Nat, j = .int .i64 m ∧ m ≤ 4 ∧ WorkIn K p t i r m W W') (fun j _ => 4 - (intOf j).toNat)
          case atStart =>
            refine ⟨0, rfl, by omega, ⟨?_, ?_⟩⟩
            · have hA := HA.out
              have hW2 : Wait W K C (.slice (some ⟨g, off + 1, none⟩) r.length (cap - 1)) r :=
                .inr ⟨g, off + 1, cap - 1, cs, rfl, n1, n2, N3.out, by omega, by omega, by omega, fun j hj => by
                  have := N7.out (j + 1) (by simpa using hj)
                  rw [show off + 1 + j = off + (j + 1) by omega, this]; simp⟩
              exact ((((((hA.setWait hW2).setN i.toNat Nd.zero).setU i.toNat false).setBusy (t.busy - 1)).alloc _).ars.drew : Ars _ K p (t.pop i r))
            · have hA := HA.out
              exact ((((((((((((Kept.refl K W).setCell (.inl hA.kp) _).setCell (.inl hA.kN) _).setCell (.inl hA.kN) _).setCell (.inl hA.kN) _).setCell (.inl hA.kN) _).setCell (.inl hA.kN) _).setCell (.inl hA.kN) _).setCell (.inl hA.kN) _).setCell (.inl hA.kU) _).setCell (.inl hA.kp) _).alloc _).drew
          case round =>
            obtain ⟨m, rfl, m4, hm⟩ := hrel
            by_cases hlt : m < 4
            · obtain ⟨y, hy, hix⟩ := ix4 (t.nd i.toNat) m hlt
              have Hy := Lib.hid hy
              have hd := Lib.hid (drop_any K p _ _ y hm.ars ((ok_drops _ (ok_pop HK.out.ok HW.out)).fit hB))
              have Hm := Lib.hid hm
              clear hy hm
              go_wp2_with (go_at_call 11; refine hd.out.mono ?_; rintro e w' ⟨rfl, ha, hk⟩)
              go_roundw
              case rel => exact ⟨m + 1, by go_num, by omega, Hm.out.next Hy.out ha hk⟩
              case measure => simp [intOf]; omega
            · obtain rfl : m = 4 := by omega
              have Hm := Lib.hid hm
              clear hm
              go_wp2_with fail
              go_step3
              refine ⟨rfl, ⟨k + 1, t.free1 i r, _, _, _, _, _, _, _, _, _, _, _, _, _, _, _, _, _, _, _, _, _, _, _, _, _, _, _, _, _, _, _, _, _, _, _, _, _, _, _, _, _, _, _, _, _, _, _, _, _, _, _, _, _, _, _, _, _, _, _, _, _, _, _, _, _, _, _, _, rfl, HK.out.next HW.out k1 Hm.out⟩, ?_⟩
              simp [intOf]
              omega
end Go.Proofs.Ytcdmebjggdhhdaa
