/- WaveShares holds: a row of symbols that differs in one shares with the one that it was made of; when it is dropped that one is as it was. No condition. -/
import Derived.Test.YtdipgcbppggdhaaWv15
import Derived.Test.YtdipgcbppggdhaaGpJ
namespace Go.Proofs.Ytdipgcbppggdhaa.waveShares
set_option maxRecDepth 100000
open Go.ChangeShapes Go.WideShapes Go.ChangeAt Go.RowKit

theorem pick (i m : Int) (h1 : 1 ≤ m) (h2 : m ≤ 1000) : IntKind.i64.wrap (i.tmod m) = i.tmod m ∧ IntKind.i64.wrap (i.tmod m + m) = i.tmod m + m ∧ ∃ k : Nat, (i.tmod m + m).tmod m = (k : Int) ∧ (k : Int) < m := by
  have a1 : i.tmod m < m := Int.tmod_lt_of_pos i (by omega)
  have a2 : -m < i.tmod m := by
    have := Int.lt_tmod_of_pos i (show 0 < m by omega)
    omega
  have a3 : 0 ≤ (i.tmod m + m) % m := Int.emod_nonneg _ (by omega)
  have a4 : (i.tmod m + m) % m < m := Int.emod_lt_of_pos _ (by omega)
  obtain ⟨k, hk⟩ := Int.eq_ofNat_of_zero_le a3
  refine ⟨bwrap_small (by omega) (by omega), bwrap_small (by omega) (by omega), k, ?_, by omega⟩
  rw [Int.tmod_eq_emod_of_nonneg (by omega)]
  exact hk
/-- What comes of it. -/
structure Facts (s : Ar) (h : Int) (zs : List Nat) (k u : Nat) (s0 s1 s2 s3 : Ar) (q : Int) (W0 X : Nat) : Prop where
  free : s0 = (s.work 1073741824).1
  busy : s0.busy = W0
  small : W0 ≤ 6000
  x44 : X ≤ 44
  snd0 : Snd s0
  snd1 : Snd s1
  snd2 : Snd s2
  ins : ∀ {K : Nat → Prop} {p : Nat} {w : World}, Ars w K p s0 → Calls Try.prog 17 #[.pointer (some ⟨p, 0, none⟩), .int .i64 h, .int .i64 k, .int .i64 u] w fun o w' => o = .returned (.tuple #[.int .i64 q, .int .i64 0]) ∧ Ars w' K p s1 ∧ Kept K w w'
  old : ∀ ys, Asc ys → (∀ x, x ∈ ys ↔ Rch s1 [h] x) → ys.length = W0
  both : ∀ ys, Asc ys → (∀ x, x ∈ ys ↔ Rch s1 [q, h] x) → ys.length ≤ W0 + 9 * (1 + X)
  drop : s1.drop q = (s2, 0)
  work : s3 = (s2.work 1073741824).1
  back : s3.busy = W0
  gd : Gd s3 [h]
  snd3 : Snd s3
  row : WRow s3 [h] h zs
theorem facts {s : Ar} {h : Int} {zs : List Nat} (W : WSt s h zs) (h1 : 1 ≤ zs.length) (hl : zs.length ≤ 40) {k u : Nat} (hk : k < zs.length) (hu : u < 257) : ∃ s0 s1 s2 s3 q W0, Facts s h zs k u s0 s1 s2 s3 q W0 (4 + 4 * bl ((zs.length + 1) / 16)) := by
  have hb := W.busy
  have hmb := W.mb
  have hn := W.n
  have hs := hi_sm (N := zs.length) (by omega)
  have hhm := hi_made (n := zs.length) (by omega)
  have hbl := bl_mono (show zs.length / 16 ≤ (zs.length + 1) / 16 by omega)
  have hbs := bl_small (m := (zs.length + 1) / 16) (by omega)
  have bl0 := W.gd.busy_le
  have nn0 := W.gd.n2
  -- nothing waits: nothing is freed
  have e0 : (s.work 1073741824).1 = s := by
    unfold Ar.work
    split
    · rfl
    · rename_i i r hw
      rw [W.wt] at hw
      cases hw
  have hasc := asc_sort (usedL_nodup s)
  have mem0 : ∀ x, x ∈ ((usedL s).mergeSort fun x y => decide (x ≤ y)) ↔ Rch s [h] x := fun x => (hasc.2 x).trans ⟨fun hx => used_reached W.gd W.wt hx, fun hx => W.gd.used hx.live⟩
  have A : ∀ ys, Asc ys → (∀ x, x ∈ ys ↔ Rch s [h] x) → ys.length = (usedL s).length := fun ys ha hy => by
    have h1 := busy_reach W.gd W.wt (R := [h]) (fun _ h => h) ha hy
    have h2 := W.gd.busy_is
    omega
  obtain ⟨s1, q, W1, g1, r1, c1⟩ := wInsert_yes (v := u) W.gd W.row (i := k) (by omega) (by omega) hu (by simp) (by omega) (by omega)
  have md1 := W1.md
  have n1 := W1.ext.n
  obtain ⟨j1, d1, d2, d3⟩ := W1.made
  have hbi := W.gd.busy_is
  have hq : 1 ≤ q := r1.rep.pos (by
    intro e
    have := congrArg List.length e
    rw [wIns_len (by omega)] at this
    simp at this)
  have hd : s1.drop q = ((s1.drop q).1, 0) := by
    unfold Ar.drop
    rw [if_neg (g1.live hq r1.range.2 List.mem_cons_self)]
  have g2 : Gd (s1.drop q).1 [h] := gd_drop g1 r1.range.1 r1.range.2
  have hd1 := drop_busy s1 q
  have hd2 := drop_made s1 q
  have hd3 := drop_n s1 q
  have bl2 := g2.busy_le
  have nn2 := g2.n2
  have wt3 := work_none 1073741824 _ g2 (by omega)
  have g3 := gd_work g2 1073741824
  have bl3 := g3.busy_le
  have w1 := work_made 1073741824 (s1.drop q).1
  have w2 := work_nn 1073741824 (s1.drop q).1
  have hr := W.row.range
  have old1 : ∀ x, Rch s [h] x ↔ Rch s1 [h] x := fun x => rch_ext W.gd g1 W1.ext hr (.inr List.mem_cons_self) (.inr (List.mem_cons_of_mem _ List.mem_cons_self)) x
  have old2 : ∀ x, Rch s1 [h] x ↔ Rch (s1.drop q).1 [h] x := fun x => rch_ext g1 g2 (ext_drop s1 q) ⟨hr.1, by omega⟩ (.inr (List.mem_cons_of_mem _ List.mem_cons_self)) (.inr List.mem_cons_self) x
  have old3 : ∀ x, Rch (s1.drop q).1 [h] x ↔ Rch ((s1.drop q).1.work 1073741824).1 [h] x := fun x => rch_work (.inr List.mem_cons_self) x 1073741824 g2 ⟨hr.1, by omega⟩
  have hb3 := busy_reach g3 wt3 (R := [h]) (fun _ h => h) hasc.1 (fun x => (mem0 x).trans ((old1 x).trans ((old2 x).trans (old3 x))))
  have hA := A _ hasc.1 mem0
  have rr : WRow ((s1.drop q).1.work 1073741824).1 [h] h zs := ((W.row.ext W1.ext (L' := [q, h]) fun x hx => List.mem_cons_of_mem _ hx).drop q (.inr List.mem_cons_self)).work g2 1073741824
  refine ⟨(s.work 1073741824).1, s1, (s1.drop q).1, ((s1.drop q).1.work 1073741824).1, q, (usedL s).length, ⟨rfl, by rw [e0]; omega, by omega, by omega, by rw [e0]; exact W.gd.snd (by simp) (by omega), g1.snd (by simp) (by omega), g2.snd (by simp) (by omega), fun ha => c1 (by rw [e0] at ha; exact ha), fun ys ha hy => A ys ha fun x => (hy x).trans (old1 x).symm, fun ys ha hy => ?_, hd, rfl, by omega, g3, g3.snd (by simp) (by omega), rr⟩⟩
  have := reach_busy g1 ha hy
  omega
set_option maxRecDepth 100000 in
set_option maxHeartbeats 16000000 in
theorem walk (v : Value) (xs : List Int) (i : Int) (_w1 : (Lit.int .i64 i).wf = true) (sy : Int) (_w2 : (Lit.int .i64 sy).wf = true) (w : World) (hx : IntsArg w v xs) :
    Calls Try.prog 8 #[v, .int .i64 i, .int .i64 sy] w fun e w' => e = .returned (.bool true) ∧ Below w.heap.size w w' := by
  have HA := Lib.hid alive9
  obtain ⟨av, cv, hv⟩ := hx.val
  obtain ⟨n, hn⟩ : ∃ n, n = xs.length := ⟨_, rfl⟩
  rw [← hn] at hv
  by_cases h1 : n < 1
  · subst hv
    have h3 : (n : Int) < 1 := by omega
    clear hx hn h1
    go_enter Try.func8, Try.ntmps8
    go_wp2_with fail
    refine (HA.out w).mono ?_
    rintro e w1 ⟨rfl, hb⟩
    go_wp2_with fail
    go_ret
    exact ⟨rfl, hb⟩
  have n1 : (1 : Int) ≤ (n : Int) := by omega
  by_cases h40 : 40 < n
  · subst hv
    have h3 : (40 : Int) < (n : Int) := by omega
    clear hx hn h40
    go_enter Try.func8, Try.ntmps8
    go_wp2_with fail
    refine (HA.out w).mono ?_
    rintro e w1 ⟨rfl, hb⟩
    go_wp2_with fail
    go_ret
    exact ⟨rfl, hb⟩
  have h3 : (n : Int) ≤ 40 := by omega
  by_cases s0 : sy < 0
  · subst hv
    clear hx hn h40
    go_enter Try.func8, Try.ntmps8
    go_wp2_with fail
    refine (HA.out w).mono ?_
    rintro e w1 ⟨rfl, hb⟩
    go_wp2_with fail
    go_ret
    exact ⟨rfl, hb⟩
  by_cases s1 : 257 ≤ sy
  · subst hv
    have s2 : 0 ≤ sy := by omega
    clear hx hn h40 s0
    go_enter Try.func8, Try.ntmps8
    go_wp2_with fail
    refine (HA.out w).mono ?_
    rintro e w1 ⟨rfl, hb⟩
    go_wp2_with fail
    go_ret
    exact ⟨rfl, hb⟩
  obtain ⟨u, rfl⟩ := Int.eq_ofNat_of_zero_le (show 0 ≤ sy by omega)
  have uI : (u : Int) < 257 := by omega
  have HU := Lib.hid (show u < 257 by omega)
  clear s0 s1
  have HC := Lib.hid (column_is hx.iv (by omega))
  cases hcol : xs.all fun x => decide (0 ≤ x ∧ x < 257)
  · rw [hcol] at HC
    subst hv
    clear hx hn h40 hcol
    go_enter Try.func8, Try.ntmps8
    go_wp2_with fail
    refine HC.out.mono ?_
    rintro e w1 ⟨rfl, q, rfl⟩
    go_wp2_with fail
    refine (HA.out _).mono ?_
    rintro e w2 ⟨rfl, hb⟩
    go_wp2_with fail
    go_ret
    exact ⟨rfl, (below_drewN (Below.refl _ _) q).trans hb⟩
  rw [hcol] at HC
  obtain ⟨zs, rfl, hz⟩ := col_nat hcol
  rw [zl_len] at hn
  have HZ := Lib.hid hz
  have HN := Lib.hid hn
  have HL := Lib.hid (show zs.length ≤ 40 by omega)
  have HX := Lib.hid hx.iv
  clear hx hn h40 hcol hz
  subst hv
  obtain ⟨p1, p2, k, p4, p5⟩ := pick i (n : Int) (by omega) (by omega)
  have Hk := Lib.hid (show k < zs.length by have := HN.out; omega)
  have H1 := Lib.hid (show 1 ≤ zs.length by have := HN.out; omega)
  have hkn : (k : Int) < (n : Int) := by omega
  have nz : ((n : Int) == 0) = false := beq_eq_false_iff_ne.2 (by omega)
  clear p5 h1
  go_enter Try.func8, Try.ntmps8
  go_wp2_with fail
  refine HC.out.mono ?_
  rintro e w1 ⟨rfl, q1, rfl⟩
  go_wp2_with fail
  refine (HA.out _).mono ?_
  rintro e w2 ⟨rfl, hb⟩
  have B2 := Lib.hid ((below_drewN (Below.refl w.heap.size w) q1).trans hb)
  clear hb HC HA
  go_wp2_with fail
  refine (new_yes 6000 _ (by decide) (by decide)).mono ?_
  rintro e w3 ⟨p, rfl, hb, ha⟩
  have A3 := Lib.hid (ha (fun b => b < w.heap.size) (fun b hb => by have := B2.out.size; omega))
  have B3 := Lib.hid (B2.out.trans (hb.mono B2.out.size))
  clear hb ha B2
  go_wp2_with fail
  refine (wbuild_is HZ.out (by have := HL.out; omega) A3.out (fun W hk => HX.out.below (B3.out.trans (hk.below_of B3.out.size)))).mono ?_
  rintro e w4 ⟨s, h, rfl, hw, ha, hk⟩
  have HW := Lib.hid hw
  have A4 := Lib.hid ha
  have B4 := Lib.hid (B3.out.trans (hk.below_of B3.out.size))
  have Sn := Lib.hid (hw.gd.snd (by simp) (by have := hw.mb; have := HL.out; omega))
  clear hw ha hk A3 B3
  obtain ⟨s0, s1, s2, s3, q, W0, hf⟩ := facts HW.out H1.out HL.out Hk.out HU.out
  rw [← HN.out] at hf
  obtain ⟨X, hX⟩ : ∃ X, X = 4 + 4 * bl ((n + 1) / 16) := ⟨_, rfl⟩
  rw [← hX] at hf
  have HM := fun w => Lib.hid (show Calls Try.prog 27 #[.int .i64 ((n : Int) + 1)] w fun e w' => e = .returned (.int .i64 (X : Nat)) ∧ w = w' from by rw [hX]; exact made_num (n + 1) (by omega) w)
  have F := Lib.hid hf
  have l3 : (X : Int) ≤ 44 := by have := hf.x44; omega
  have l4 : (W0 : Int) ≤ 6000 := by have := hf.small; omega
  have HI := Lib.hid (fun W (ha : Ars W (fun b => b < w.heap.size) p s0) => hf.ins ha)
  clear hf hX
  go_wp2_with fail
  refine (work_is (B := 100000000000) 1073741824 (s := s) (s' := s0) (n := (s.work 1073741824).2) (by have h := F.out.free; rw [h]; rfl) rfl A4.out Sn.out (by decide) (by decide)).mono ?_
  rintro e w5 ⟨rfl, ha, hk⟩
  have A5 := Lib.hid ha
  have B5 := Lib.hid (B4.out.trans (hk.below_of B4.out.size))
  clear ha hk A4 B4
  go_wp2_with fail
  refine (used_is F.out.busy A5.out).mono ?_
  rintro e w6 ⟨rfl, rfl⟩
  go_wp2_with fail
  refine (HI.out _ A5.out).mono ?_
  rintro e w6 ⟨rfl, ha, hk⟩
  have A6 := Lib.hid (ha.alloc (.cells #[.int .i64 h] 3))
  have B6a := B5.out.trans (hk.below_of B5.out.size)
  have B6 := Lib.hid (B6a.alloc B6a.size (.cells #[.int .i64 h] 3))
  clear ha hk A5 B5 HI B6a
  go_wp2_with fail
  refine (reach_len A6.out F.out.snd1.fit (ints_one w6 h) (by show 1 ≤ 100; omega) F.out.old).mono ?_
  rintro e w7 ⟨⟨ra, rc, rfl⟩, hk⟩
  have A7 := Lib.hid ((A6.out.below hk).alloc (.cells #[.int .i64 q, .int .i64 h] 3))
  have B7a := B6.out.trans (hk.mono B6.out.size)
  have B7 := Lib.hid (B7a.alloc B7a.size (.cells #[.int .i64 q, .int .i64 h] 3))
  clear hk A6 B6 B7a
  go_wp2_with fail
  refine (reach_most A7.out F.out.snd1.fit (ints_two w7 q h) (by show 2 ≤ 100; omega) F.out.both).mono ?_
  rintro e w8 ⟨⟨re, rf, m8, hm8, rfl⟩, hk⟩
  have A8 := Lib.hid (A7.out.below hk)
  have B8 := Lib.hid (B7.out.trans (hk.mono B7.out.size))
  have hlt : decide ((W0 : Int) + 9 * (1 + (X : Int)) < (m8 : Int)) = false := by simp; omega
  have HD := Lib.hid (drop_is q F.out.drop A8.out F.out.snd1.fit)
  clear hk A7 B7 hm8
  go_wp2_with fail
  refine (HM _).out.mono ?_
  rintro e w9 ⟨rfl, rfl⟩
  go_wp2_with fail
  refine HD.out.mono ?_
  rintro e w9 ⟨rfl, ha, hk⟩
  have A9 := Lib.hid ha
  have B9 := Lib.hid (B8.out.trans (hk.below_of B8.out.size))
  clear ha hk A8 B8 HD hlt
  go_wp2_with fail
  refine (work_is (B := 100000000000) 1073741824 (s := s2) (s' := s3) (n := (s2.work 1073741824).2) (by have h := F.out.work; rw [h]; rfl) rfl A9.out F.out.snd2 (by decide) (by decide)).mono ?_
  rintro e w10 ⟨rfl, ha, hk⟩
  have A10 := Lib.hid ha
  have B10 := Lib.hid (B9.out.trans (hk.below_of B9.out.size))
  clear ha hk A9 B9
  go_wp2_with fail
  refine (used_is F.out.back A10.out).mono ?_
  rintro e w11 ⟨rfl, rfl⟩
  go_wp2_with fail
  refine (wall_row F.out.gd F.out.snd3 F.out.row A10.out).mono ?_
  rintro e w11 ⟨v11, K11, rfl, l11, _, b11⟩
  have B11 := Lib.hid (B10.out.trans (b11.mono B10.out.size))
  have L11 := Lib.hid l11.ints.iv
  clear b11 l11 A10 B10
  go_wp2_with fail
  refine (same_ints_is (xs := zl zs) L11.out (HX.out.below B11.out) (by rw [zl_len]; have := HL.out; omega)).mono ?_
  rintro e w12 ⟨rfl, q12, rfl⟩
  go_wp2_with fail
  go_ret
  exact ⟨rfl, below_drewN B11.out q12⟩

set_option maxRecDepth 100000 in
theorem lifted (os : Os) (started : os.Started) (H : Type) (enc : TypeId × Value → H) :
    ReturnsInHanded {} Try.checked os 8 .any (Rows.waveSharesSpec.pre6 enc Try.prog Try.f8 Rows.waveSharesRow.domain false) (Rows.waveSharesSpec.post enc Try.prog Try.f8 false true false false) := by
  refine returnsInHanded_of_change (C := Try.checked) own_ started (by kernel_rfl) Try.func8
    (ChangeSpec.witness6 (enc := enc) (C := Try.checked) false ⟨#[], #[.slice none 0 0, .int .i64 0, .int .i64 0], []⟩ 8 (by kernel_rfl) (by kernel_rfl) (by kernel_rfl) (by kernel_rfl)) ?_
  intro W base args ds gs before hval0 hW _ _
  have hval : ∀ (j : Nat) t v, Try.f8.params[j]? = some t → args[j]? = some v → Value.okWide Try.prog W .any base t v := hval0
  have hW' := hW
  obtain ⟨p, q, hA0, hV, rfl, hfz, hnd⟩ := hW
  have hA : DataW.TrodAll enc Try.prog W 0 (fun _ => true) true Try.f8.params.toList args.toList ds p := hA0
  rw [Try.params8] at hA hval
  obtain ⟨v0, vs0, d0, ds0, p0, q0, hargs, rfl, rfl, h0, r0⟩ := trodAll_cons hA
  obtain ⟨v1, vs1, d1, ds1, p1, q1, rfl, rfl, rfl, h1, r1⟩ := trodAll_cons r0
  obtain ⟨v2, vs2, d2, ds2, p2, q2, rfl, rfl, rfl, h2, r2⟩ := trodAll_cons r1
  obtain ⟨rfl, rfl, rfl⟩ := trodAll_nil r2
  obtain rfl : args = #[v0, v1, v2] := by cases args; simp_all
  obtain ⟨x0, hx0⟩ := ints_arg (hval 0 22 v0 rfl rfl) h0
  obtain ⟨a1, rfl, rfl, rfl, w1⟩ := open_int Try.underlying3 (hval 1 3 v1 rfl rfl) h1
  obtain ⟨a2, rfl, rfl, rfl, w2⟩ := open_int Try.underlying3 (hval 2 3 v2 rfl rfl) h2
  clear hA0 hval0
  refine (walk v0 x0 a1 w1 a2 w2 W hx0).mono fun e W' ⟨he, hg⟩ => ?_
  subst he
  exact ⟨_, rfl, law_post laid_ (by kernel_rfl) rfl hW' hg rfl Try.underlying4 ⟨rfl, rfl, rfl⟩⟩

theorem over : Rows.waveSharesRow.holds Try.pinned (OpenSpec.ofChange Rows.waveSharesSpec) :=
  OpenClaim.holds_of_wide 8 Try.f8 rfl rfl rfl rfl rfl rfl rfl ⟨rfl, rfl, rfl, rfl, rfl⟩ rfl rfl rfl rfl rfl (by kernel_rfl) Try.func8 (by kernel_rfl)
    (of_decide_eq_true (by kernel_rfl)) (by unfold Func.isWrapper; first | (rw [if_pos (by decide +kernel)]; kernel_rfl) | (rw [if_neg (by decide +kernel)]; exact ⟨rfl, rfl⟩))
    (fun os started H enc _ => lifted os started H enc)

theorem proved : Rows.WaveSharesSaid :=
  over
#print axioms proved
end Go.Proofs.Ytdipgcbppggdhaa.waveShares
