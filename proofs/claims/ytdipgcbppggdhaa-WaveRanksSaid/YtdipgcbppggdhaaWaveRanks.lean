/- WaveRanks holds: where the k-th of a symbol stands as many of it are ahead; before one more there are as many more as of it. No condition. -/
import Derived.Test.YtdipgcbppggdhaaWv15
namespace Go.Proofs.Ytdipgcbppggdhaa.waveRanks
set_option maxRecDepth 100000
open Go.ChangeShapes Go.WideShapes Go.ChangeAt Go.RowKit

set_option maxRecDepth 100000 in
set_option maxHeartbeats 16000000 in
theorem walk (v : Value) (xs : List Int) (sy : Int) (_w1 : (Lit.int .i64 sy).wf = true) (k : Int) (_w2 : (Lit.int .i64 k).wf = true) (w : World) (hx : IntsArg w v xs) :
    Calls Try.prog 3 #[v, .int .i64 sy, .int .i64 k] w fun e w' => e = .returned (.bool true) ∧ Below w.heap.size w w' := by
  have HA := Lib.hid alive9
  obtain ⟨av, cv, hv⟩ := hx.val
  obtain ⟨n, hn⟩ : ∃ n, n = xs.length := ⟨_, rfl⟩
  rw [← hn] at hv
  by_cases h40 : 40 < n
  · subst hv
    have h3 : (40 : Int) < (n : Int) := by omega
    clear hx hn h40
    go_enter Try.func3, Try.ntmps3
    go_wp2_with fail
    refine (HA.out w).mono ?_
    rintro e w1 ⟨rfl, hb⟩
    go_wp2_with fail
    go_ret
    exact ⟨rfl, hb⟩
  have h3 : (n : Int) ≤ 40 := by omega
  by_cases s0 : sy < 0
  · subst hv
    clear hx hn h40
    go_enter Try.func3, Try.ntmps3
    go_wp2_with fail
    refine (HA.out w).mono ?_
    rintro e w1 ⟨rfl, hb⟩
    go_wp2_with fail
    go_ret
    exact ⟨rfl, hb⟩
  by_cases s1 : 257 ≤ sy
  · subst hv
    have s2 : 0 ≤ sy := by omega
    clear hx hn h40 s0
    go_enter Try.func3, Try.ntmps3
    go_wp2_with fail
    refine (HA.out w).mono ?_
    rintro e w1 ⟨rfl, hb⟩
    go_wp2_with fail
    go_ret
    exact ⟨rfl, hb⟩
  obtain ⟨u, rfl⟩ := Int.eq_ofNat_of_zero_le (show 0 ≤ sy by omega)
  have uI : (u : Int) < 257 := by omega
  have HU := Lib.hid (show u < 257 by omega)
  clear s0 s1
  have HC := Lib.hid (column_is hx.iv (by omega))
  cases hcol : xs.all fun x => decide (0 ≤ x ∧ x < 257)
  · rw [hcol] at HC
    subst hv
    clear hx hn h40 hcol
    go_enter Try.func3, Try.ntmps3
    go_wp2_with fail
    refine HC.out.mono ?_
    rintro e w1 ⟨rfl, q, rfl⟩
    go_wp2_with fail
    refine (HA.out _).mono ?_
    rintro e w2 ⟨rfl, hb⟩
    go_wp2_with fail
    go_ret
    exact ⟨rfl, (below_drewN (Below.refl _ _) q).trans hb⟩
  rw [hcol] at HC
  obtain ⟨zs, rfl, hz⟩ := col_nat hcol
  rw [zl_len] at hn
  have HZ := Lib.hid hz
  have HN := Lib.hid hn
  have HL := Lib.hid (show zs.length ≤ 40 by omega)
  have HX := Lib.hid hx.iv
  clear hx hn h40 hcol hz
  subst hv
  obtain ⟨c, hc⟩ : ∃ c, c = zs.count u := ⟨_, rfl⟩
  obtain ⟨d, hd⟩ : ∃ d, d = zs.countP fun y => decide (y < u) := ⟨_, rfl⟩
  have hdc : zs.countP (fun y => decide (y < u + 1)) = d + c := by rw [count_lt_succ, hc, hd]
  have hcl : c ≤ n := by rw [hc, HN.out]; exact List.count_le_length
  have hdl : d ≤ n := by rw [hd, HN.out]; exact List.countP_le_length
  have e9 : zs.countP (fun y => decide (y < 257)) = n := by rw [HN.out]; exact List.countP_eq_length.2 fun y hy => by simpa using HZ.out y hy
  have Hc := Lib.hid hc
  have Hd := Lib.hid hd
  have Hdc := Lib.hid hdc
  have He9 := Lib.hid e9
  have cI : (c : Int) ≤ 40 := by omega
  have dI : (d : Int) ≤ 40 := by omega
  clear hc hd hdc e9 hcl hdl
  go_enter Try.func3, Try.ntmps3
  go_wp2_with fail
  refine HC.out.mono ?_
  rintro e w1 ⟨rfl, q1, rfl⟩
  go_wp2_with fail
  refine (HA.out _).mono ?_
  rintro e w2 ⟨rfl, hb⟩
  have B2 := Lib.hid ((below_drewN (Below.refl w.heap.size w) q1).trans hb)
  clear hb HC HA
  go_wp2_with fail
  refine (new_yes 6000 _ (by decide) (by decide)).mono ?_
  rintro e w3 ⟨p, rfl, hb, ha⟩
  have A3 := Lib.hid (ha (fun b => b < w.heap.size) (fun b hb => by have := B2.out.size; omega))
  have B3 := Lib.hid (B2.out.trans (hb.mono B2.out.size))
  clear hb ha B2
  go_wp2_with fail
  refine (wbuild_is HZ.out (by have := HL.out; omega) A3.out (fun W hk => HX.out.below (B3.out.trans (hk.below_of B3.out.size)))).mono ?_
  rintro e w4 ⟨s, h, rfl, hw, ha, hk⟩
  have HW := Lib.hid hw
  have A4 := Lib.hid ha
  have B4 := Lib.hid (B3.out.trans (hk.below_of B3.out.size))
  have Sn := Lib.hid (hw.gd.snd (by simp) (by have := hw.mb; have := HL.out; omega))
  clear hw ha hk A3 B3
  have r := HW.out.row
  have HRk := Lib.hid (fun W (ha : Ars W (fun b => b < w.heap.size) p s) => show Calls Try.prog 13 #[.pointer (some ⟨p, 0, none⟩), .int .i64 h, .int .i64 u, .int .i64 n] W fun e w' => e = .returned (.int .i64 c) ∧ Below W.heap.size W w' from by
    have hh := wrank_row (i := (n : Int)) (c := n) (v := u) HW.out.gd Sn.out r HU.out (by have := HN.out; omega) ha
    rw [HN.out, List.take_of_length_le (Nat.le_refl _), ← Hc.out] at hh
    rw [HN.out]
    exact hh)
  have HB0 := Lib.hid (fun W (ha : Ars W (fun b => b < w.heap.size) p s) => show Calls Try.prog 15 #[.pointer (some ⟨p, 0, none⟩), .int .i64 h, .int .i64 u] W fun e w' => e = .returned (.int .i64 d) ∧ Below W.heap.size W w' from by
    have hh := wbefore_row (v := u) HW.out.gd Sn.out r (by have := HU.out; omega) ha
    rw [← Hd.out] at hh
    exact hh)
  have HB1 := Lib.hid (fun W (ha : Ars W (fun b => b < w.heap.size) p s) => show Calls Try.prog 15 #[.pointer (some ⟨p, 0, none⟩), .int .i64 h, .int .i64 ((u : Int) + 1)] W fun e w' => e = .returned (.int .i64 ((d : Int) + (c : Int))) ∧ Below W.heap.size W w' from by
    have hh := wbefore_row (v := u + 1) HW.out.gd Sn.out r (by have := HU.out; omega) ha
    rw [Hdc.out] at hh
    exact hh)
  have HB9 := Lib.hid (fun W (ha : Ars W (fun b => b < w.heap.size) p s) => show Calls Try.prog 15 #[.pointer (some ⟨p, 0, none⟩), .int .i64 h, .int .i64 257] W fun e w' => e = .returned (.int .i64 n) ∧ Below W.heap.size W w' from by
    have hh := wbefore_row (v := 257) HW.out.gd Sn.out r (by omega) ha
    rw [He9.out] at hh
    exact hh)
  by_cases hk : 0 ≤ k ∧ k < (c : Int)
  · obtain ⟨hk0, hk1⟩ := hk
    obtain ⟨k, rfl⟩ := Int.eq_ofNat_of_zero_le hk0
    have HSl0 : ∃ j : Nat, j < n ∧ Hid (zs.getD j 0 = u) ∧ Hid ((zs.take j).count u = k) ∧ Hid (∀ W, Ars W (fun b => b < w.heap.size) p s → Calls Try.prog 14 #[.pointer (some ⟨p, 0, none⟩), .int .i64 h, .int .i64 u, .int .i64 k] W fun e w' => e = .returned (.int .i64 (j : Int)) ∧ Below W.heap.size W w') := by
      obtain ⟨x, N⟩ := r.node HW.out.gd Sn.out
      have hk2 : k < zs.countP (wsame 9 u) := by rw [wcount_nine HU.out r.sym, ← Hc.out]; omega
      obtain ⟨h1, h2, h3⟩ := wsel_spec 9 u zs k hk2
      refine ⟨_, by rw [HN.out]; exact h1, ?_, ?_, fun W ha => ?_⟩
      · rw [wsame_nine HU.out (HZ.out _ (getD_mem h1))] at h2
        exact beq_iff_eq.1 h2
      · rw [wrank_nine HU.out r.sym] at h3
        exact h3
      · have H := wselect_is (k := k) HW.out.gd.zero Sn.out List.mem_cons_self N r.len HU.out ha
        rw [if_pos hk2] at H
        exact H
    obtain ⟨j, j1, Hj, Hk, HSl⟩ := HSl0
    have HGt := Lib.hid (fun W (ha : Ars W (fun b => b < w.heap.size) p s) => show Calls Try.prog 16 #[.pointer (some ⟨p, 0, none⟩), .int .i64 h, .int .i64 j] W fun e w' => e = .returned (.tuple #[.int .i64 u, .bool true]) ∧ Below W.heap.size W w' from by
      have hh := wget_row (i := j) HW.out.gd Sn.out r ha (by have := HN.out; omega)
      rw [Hj.out] at hh
      exact hh)
    have HR2 := Lib.hid (fun W (ha : Ars W (fun b => b < w.heap.size) p s) => show Calls Try.prog 13 #[.pointer (some ⟨p, 0, none⟩), .int .i64 h, .int .i64 u, .int .i64 j] W fun e w' => e = .returned (.int .i64 k) ∧ Below W.heap.size W w' from by
      have hh := wrank_row (i := (j : Int)) (c := j) (v := u) HW.out.gd Sn.out r HU.out (by have := HN.out; omega) ha
      rw [Hk.out] at hh
      exact hh)
    have dkc : decide ((k : Int) < (c : Int)) = true := by simp; omega
    have dkc2 : decide (k < c) = true := by simp; omega
    have jI : (j : Int) ≤ 40 := by omega
    clear r hk0 j1
    go_wp2_with fail
    refine (HRk.out w4 A4.out).mono ?_
    rintro e w5 ⟨rfl, b5⟩
    have A5 := Lib.hid (A4.out.below b5)
    have B5 := Lib.hid (B4.out.trans (b5.mono B4.out.size))
    clear b5 A4 B4 HRk
    go_wp2_with fail
    refine (HSl.out w5 A5.out).mono ?_
    rintro e w6 ⟨rfl, b6⟩
    have A6 := Lib.hid (A5.out.below b6)
    have B6 := Lib.hid (B5.out.trans (b6.mono B5.out.size))
    clear b6 A5 B5 HSl
    go_wp2_with fail
    refine (HB1.out w6 A6.out).mono ?_
    rintro e w7 ⟨rfl, b7⟩
    have A7 := Lib.hid (A6.out.below b7)
    have B7 := Lib.hid (B6.out.trans (b7.mono B6.out.size))
    clear b7 A6 B6 HB1
    go_wp2_with fail
    refine (HB0.out w7 A7.out).mono ?_
    rintro e w8 ⟨rfl, b8⟩
    have A8 := Lib.hid (A7.out.below b8)
    have B8 := Lib.hid (B7.out.trans (b8.mono B7.out.size))
    clear b8 A7 B7 HB0
    go_wp2_with fail
    refine (HB9.out w8 A8.out).mono ?_
    rintro e w9 ⟨rfl, b9⟩
    have A9 := Lib.hid (A8.out.below b9)
    have B9 := Lib.hid (B8.out.trans (b9.mono B8.out.size))
    clear b9 A8 B8 HB9
    go_wp2_with fail
    refine (HGt.out w9 A9.out).mono ?_
    rintro e w10 ⟨rfl, b10⟩
    have A10 := Lib.hid (A9.out.below b10)
    have B10 := Lib.hid (B9.out.trans (b10.mono B9.out.size))
    clear b10 A9 B9 HGt
    go_wp2_with fail
    refine (HR2.out w10 A10.out).mono ?_
    rintro e w11 ⟨rfl, b11⟩
    go_wp2_with fail
    go_ret
    exact ⟨rfl, B10.out.trans (b11.mono B10.out.size)⟩
  · have HSl := Lib.hid (fun W (ha : Ars W (fun b => b < w.heap.size) p s) => wselect_out (k := k) HW.out.gd Sn.out r HU.out (by rw [← Hc.out]; omega) ha)
    have HGt := Lib.hid (fun W (ha : Ars W (fun b => b < w.heap.size) p s) => show Calls Try.prog 16 #[.pointer (some ⟨p, 0, none⟩), .int .i64 h, .int .i64 (-1)] W fun e w' => e = .returned (.tuple #[.int .i64 0, .bool false]) ∧ Below W.heap.size W w' from by
      obtain ⟨x, N⟩ := r.node HW.out.gd Sn.out
      exact wget_out HW.out.gd.zero Sn.out N (.inl (by omega)) ha)
    by_cases k0 : k < 0
    · clear r hk
      go_wp2_with fail
      refine (HRk.out w4 A4.out).mono ?_
      rintro e w5 ⟨rfl, b5⟩
      have A5 := Lib.hid (A4.out.below b5)
      have B5 := Lib.hid (B4.out.trans (b5.mono B4.out.size))
      clear b5 A4 B4 HRk
      go_wp2_with fail
      refine (HSl.out w5 A5.out).mono ?_
      rintro e w6 ⟨rfl, b6⟩
      have A6 := Lib.hid (A5.out.below b6)
      have B6 := Lib.hid (B5.out.trans (b6.mono B5.out.size))
      clear b6 A5 B5 HSl
      go_wp2_with fail
      refine (HB1.out w6 A6.out).mono ?_
      rintro e w7 ⟨rfl, b7⟩
      have A7 := Lib.hid (A6.out.below b7)
      have B7 := Lib.hid (B6.out.trans (b7.mono B6.out.size))
      clear b7 A6 B6 HB1
      go_wp2_with fail
      refine (HB0.out w7 A7.out).mono ?_
      rintro e w8 ⟨rfl, b8⟩
      have A8 := Lib.hid (A7.out.below b8)
      have B8 := Lib.hid (B7.out.trans (b8.mono B7.out.size))
      clear b8 A7 B7 HB0
      go_wp2_with fail
      refine (HB9.out w8 A8.out).mono ?_
      rintro e w9 ⟨rfl, b9⟩
      have A9 := Lib.hid (A8.out.below b9)
      have B9 := Lib.hid (B8.out.trans (b9.mono B8.out.size))
      clear b9 A8 B8 HB9
      go_wp2_with fail
      refine (HGt.out w9 A9.out).mono ?_
      rintro e w10 ⟨rfl, b10⟩
      have A10 := Lib.hid (A9.out.below b10)
      have B10 := Lib.hid (B9.out.trans (b10.mono B9.out.size))
      clear b10 A9 B9 HGt
      go_wp2_with fail
      go_ret
      exact ⟨rfl, B10.out⟩
    · have k1 : 0 ≤ k := by omega
      have k2 : (c : Int) ≤ k := by omega
      have dkc : decide (k < (c : Int)) = false := by simp; omega
      clear r hk k0
      go_wp2_with fail
      refine (HRk.out w4 A4.out).mono ?_
      rintro e w5 ⟨rfl, b5⟩
      have A5 := Lib.hid (A4.out.below b5)
      have B5 := Lib.hid (B4.out.trans (b5.mono B4.out.size))
      clear b5 A4 B4 HRk
      go_wp2_with fail
      refine (HSl.out w5 A5.out).mono ?_
      rintro e w6 ⟨rfl, b6⟩
      have A6 := Lib.hid (A5.out.below b6)
      have B6 := Lib.hid (B5.out.trans (b6.mono B5.out.size))
      clear b6 A5 B5 HSl
      go_wp2_with fail
      refine (HB1.out w6 A6.out).mono ?_
      rintro e w7 ⟨rfl, b7⟩
      have A7 := Lib.hid (A6.out.below b7)
      have B7 := Lib.hid (B6.out.trans (b7.mono B6.out.size))
      clear b7 A6 B6 HB1
      go_wp2_with fail
      refine (HB0.out w7 A7.out).mono ?_
      rintro e w8 ⟨rfl, b8⟩
      have A8 := Lib.hid (A7.out.below b8)
      have B8 := Lib.hid (B7.out.trans (b8.mono B7.out.size))
      clear b8 A7 B7 HB0
      go_wp2_with fail
      refine (HB9.out w8 A8.out).mono ?_
      rintro e w9 ⟨rfl, b9⟩
      have A9 := Lib.hid (A8.out.below b9)
      have B9 := Lib.hid (B8.out.trans (b9.mono B8.out.size))
      clear b9 A8 B8 HB9
      go_wp2_with fail
      refine (HGt.out w9 A9.out).mono ?_
      rintro e w10 ⟨rfl, b10⟩
      have A10 := Lib.hid (A9.out.below b10)
      have B10 := Lib.hid (B9.out.trans (b10.mono B9.out.size))
      clear b10 A9 B9 HGt
      go_wp2_with fail
      go_ret
      exact ⟨rfl, B10.out⟩

set_option maxRecDepth 100000 in
theorem lifted (os : Os) (started : os.Started) (H : Type) (enc : TypeId × Value → H) :
    ReturnsInHanded {} Try.checked os 3 .any (Rows.waveRanksSpec.pre6 enc Try.prog Try.f3 Rows.waveRanksRow.domain false) (Rows.waveRanksSpec.post enc Try.prog Try.f3 false true false false) := by
  refine returnsInHanded_of_change (C := Try.checked) own_ started (by kernel_rfl) Try.func3
    (ChangeSpec.witness6 (enc := enc) (C := Try.checked) false ⟨#[], #[.slice none 0 0, .int .i64 0, .int .i64 0], []⟩ 8 (by kernel_rfl) (by kernel_rfl) (by kernel_rfl) (by kernel_rfl)) ?_
  intro W base args ds gs before hval0 hW _ _
  have hval : ∀ (j : Nat) t v, Try.f3.params[j]? = some t → args[j]? = some v → Value.okWide Try.prog W .any base t v := hval0
  have hW' := hW
  obtain ⟨p, q, hA0, hV, rfl, hfz, hnd⟩ := hW
  have hA : DataW.TrodAll enc Try.prog W 0 (fun _ => true) true Try.f3.params.toList args.toList ds p := hA0
  rw [Try.params3] at hA hval
  obtain ⟨v0, vs0, d0, ds0, p0, q0, hargs, rfl, rfl, h0, r0⟩ := trodAll_cons hA
  obtain ⟨v1, vs1, d1, ds1, p1, q1, rfl, rfl, rfl, h1, r1⟩ := trodAll_cons r0
  obtain ⟨v2, vs2, d2, ds2, p2, q2, rfl, rfl, rfl, h2, r2⟩ := trodAll_cons r1
  obtain ⟨rfl, rfl, rfl⟩ := trodAll_nil r2
  obtain rfl : args = #[v0, v1, v2] := by cases args; simp_all
  obtain ⟨x0, hx0⟩ := ints_arg (hval 0 22 v0 rfl rfl) h0
  obtain ⟨a1, rfl, rfl, rfl, w1⟩ := open_int Try.underlying3 (hval 1 3 v1 rfl rfl) h1
  obtain ⟨a2, rfl, rfl, rfl, w2⟩ := open_int Try.underlying3 (hval 2 3 v2 rfl rfl) h2
  clear hA0 hval0
  refine (walk v0 x0 a1 w1 a2 w2 W hx0).mono fun e W' ⟨he, hg⟩ => ?_
  subst he
  exact ⟨_, rfl, law_post laid_ (by kernel_rfl) rfl hW' hg rfl Try.underlying4 ⟨rfl, rfl, rfl⟩⟩

theorem over : Rows.waveRanksRow.holds Try.pinned (OpenSpec.ofChange Rows.waveRanksSpec) :=
  OpenClaim.holds_of_wide 3 Try.f3 rfl rfl rfl rfl rfl rfl rfl ⟨rfl, rfl, rfl, rfl, rfl⟩ rfl rfl rfl rfl rfl (by kernel_rfl) Try.func3 (by kernel_rfl)
    (of_decide_eq_true (by kernel_rfl)) (by unfold Func.isWrapper; first | (rw [if_pos (by decide +kernel)]; kernel_rfl) | (rw [if_neg (by decide +kernel)]; exact ⟨rfl, rfl⟩))
    (fun os started H enc _ => lifted os started H enc)

theorem proved : Rows.WaveRanksSaid :=
  over
#print axioms proved
end Go.Proofs.Ytdipgcbppggdhaa.waveRanks
