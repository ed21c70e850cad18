/- WaveNodes holds: a row of symbols has no more nodes than nine levels of its length, and some, take; dropped nothing of it is left. No condition. -/
import Derived.Test.YtdipgcbppggdhaaWv15
namespace Go.Proofs.Ytdipgcbppggdhaa.waveNodes
set_option maxRecDepth 100000
open Go.ChangeShapes Go.WideShapes Go.ChangeAt Go.RowKit

theorem gone {s : Ar} {h : Int} {xs : List Nat} (W : WSt s h xs) (hl : xs.length ≤ 60) : Snd (s.drop h).1 ∧ ((s.drop h).1.work 1073741824).1.busy = 0 ∧ (h = 0 → (s.drop h).1 = s) ∧ (h ≠ 0 → s.drop h = ((s.drop h).1, 0)) := by
  have hb := W.busy
  have hmb := W.mb
  have g2 : Gd (s.drop h).1 [] := gd_drop W.gd W.row.range.1 W.row.range.2
  have hd1 := drop_busy s h
  have hd2 := drop_made s h
  have bl2 := g2.busy_le
  have nn2 := g2.n2
  have g3 := gd_work g2 1073741824
  have wt3 := work_none 1073741824 _ g2 (by omega)
  have h0 := busy_cover g3 wt3 (l := []) (fun y hy => by cases hy) (fun x k hx => by cases hx)
  have h1 := g3.busy_le
  refine ⟨g2.snd (by simp) (by omega), by simp at h0; omega, fun e => ?_, fun e => ?_⟩
  · subst e
    unfold Ar.drop
    rw [if_pos (count_zero' s)]
  · unfold Ar.drop
    rw [if_neg (W.gd.live (by have := W.row.range.1; omega) W.row.range.2 List.mem_cons_self)]
set_option maxRecDepth 100000 in
set_option maxHeartbeats 16000000 in
theorem walk (v : Value) (xs : List Int) (w : World) (hx : IntsArg w v xs) :
    Calls Try.prog 7 #[v] w fun e w' => e = .returned (.bool true) ∧ Below w.heap.size w w' := by
  have HA := Lib.hid alive9
  obtain ⟨av, cv, hv⟩ := hx.val
  obtain ⟨n, hn⟩ : ∃ n, n = xs.length := ⟨_, rfl⟩
  rw [← hn] at hv
  by_cases h40 : 40 < n
  · subst hv
    have h3 : (40 : Int) < (n : Int) := by omega
    clear hx hn h40
    go_enter Try.func7, Try.ntmps7
    go_wp2_with fail
    refine (HA.out w).mono ?_
    rintro e w1 ⟨rfl, hb⟩
    go_wp2_with fail
    go_ret
    exact ⟨rfl, hb⟩
  have h3 : (n : Int) ≤ 40 := by omega
  have HC := Lib.hid (column_is hx.iv (by omega))
  cases hcol : xs.all fun x => decide (0 ≤ x ∧ x < 257)
  · rw [hcol] at HC
    subst hv
    clear hx hn h40 hcol
    go_enter Try.func7, Try.ntmps7
    go_wp2_with fail
    refine HC.out.mono ?_
    rintro e w1 ⟨rfl, q, rfl⟩
    go_wp2_with fail
    refine (HA.out _).mono ?_
    rintro e w2 ⟨rfl, hb⟩
    go_wp2_with fail
    go_ret
    exact ⟨rfl, (below_drewN (Below.refl _ _) q).trans hb⟩
  rw [hcol] at HC
  obtain ⟨zs, rfl, hz⟩ := col_nat hcol
  rw [zl_len] at hn
  have HZ := Lib.hid hz
  have HN := Lib.hid hn
  have HL := Lib.hid (show zs.length ≤ 40 by omega)
  have HX := Lib.hid hx.iv
  clear hx hn h40 hcol hz
  subst hv
  go_enter Try.func7, Try.ntmps7
  go_wp2_with fail
  refine HC.out.mono ?_
  rintro e w1 ⟨rfl, q1, rfl⟩
  go_wp2_with fail
  refine (HA.out _).mono ?_
  rintro e w2 ⟨rfl, hb⟩
  have B2 := Lib.hid ((below_drewN (Below.refl w.heap.size w) q1).trans hb)
  clear hb HC HA
  go_wp2_with fail
  refine (new_yes 6000 _ (by decide) (by decide)).mono ?_
  rintro e w3 ⟨p, rfl, hb, ha⟩
  have A3 := Lib.hid (ha (fun b => b < w.heap.size) (fun b hb => by have := B2.out.size; omega))
  have B3 := Lib.hid (B2.out.trans (hb.mono B2.out.size))
  clear hb ha B2
  go_wp2_with fail
  refine (wbuild_is HZ.out (by have := HL.out; omega) A3.out (fun W hk => HX.out.below (B3.out.trans (hk.below_of B3.out.size)))).mono ?_
  rintro e w4 ⟨s, h, rfl, hw, ha, hk⟩
  have HW := Lib.hid hw
  have A4 := Lib.hid ha
  have B4 := Lib.hid (B3.out.trans (hk.below_of B3.out.size))
  have Sn := Lib.hid (hw.gd.snd (by simp) (by have := hw.mb; have := HL.out; omega))
  clear hw ha hk A3 B3
  go_wp2_with fail
  have A4b := Lib.hid (A4.out.alloc (.cells #[.int .i64 h] 3))
  have B4b := Lib.hid (B4.out.alloc B4.out.size (.cells #[.int .i64 h] 3))
  refine (reach_most (n := 27 * n) A4b.out Sn.out.fit (ints_one w4 h) (by show 1 ≤ 100; omega) (fun zs ha hz => by have := wrep_reach HW.out.row.rep ha hz; have := HN.out; omega)).mono ?_
  rintro e w5 ⟨⟨ra, rc, m, hm, rfl⟩, b5⟩
  have A5 := Lib.hid (A4b.out.below b5)
  have B5 := Lib.hid (B4b.out.trans (b5.mono B4b.out.size))
  have hmI : (m : Int) ≤ 27 * (n : Int) := by omega
  obtain ⟨f1, f2, f3, f4⟩ := gone HW.out (by have := HL.out; omega)
  have F1 := Lib.hid f1
  have F2 := Lib.hid f2
  have F3 := Lib.hid f3
  have F4 := Lib.hid f4
  clear f1 f2 f3 f4 hm b5 A4 B4 A4b B4b
  have hlt : decide (9 * (3 * (n : Int) + 2) < (m : Int)) = false := by simp; omega
  by_cases hh : h = 0
  · have e0 : (h == 0) = true := by simpa using hh
    have e1 : (h != 0) = false := by simpa using hh
    have F5 := Lib.hid (show (s.work 1073741824).1.busy = 0 by have := F2.out; rw [F3.out hh] at this; exact this)
    clear hh
    go_wp2_with fail
    refine (work_is (B := 100000000000) 1073741824 (s := s) (s' := ((s).work 1073741824).1) (n := ((s).work 1073741824).2) rfl rfl A5.out Sn.out (by decide) (by decide)).mono ?_
    rintro e w7 ⟨rfl, ha, hk⟩
    have A7 := Lib.hid ha
    have B7 := Lib.hid (B5.out.trans (hk.below_of B5.out.size))
    clear ha hk
    go_wp2_with fail
    refine (used_is F5.out A7.out).mono ?_
    rintro e w8 ⟨rfl, rfl⟩
    go_wp2_with fail
    go_ret
    exact ⟨rfl, B7.out⟩
  · have e0 : (h == 0) = false := by simpa using hh
    have e1 : (h != 0) = true := by simpa using hh
    have HD := Lib.hid (drop_is h (F4.out hh) A5.out Sn.out.fit)
    clear hh
    go_wp2_with fail
    refine HD.out.mono ?_
    rintro e w6 ⟨rfl, ha, hk⟩
    have A6 := Lib.hid ha
    have B6 := Lib.hid (B5.out.trans (hk.below_of B5.out.size))
    clear ha hk HD A5 B5
    go_wp2_with fail
    refine (work_is (B := 100000000000) 1073741824 (s := (s.drop h).1) (s' := (((s.drop h).1).work 1073741824).1) (n := (((s.drop h).1).work 1073741824).2) rfl rfl A6.out F1.out (by decide) (by decide)).mono ?_
    rintro e w7 ⟨rfl, ha, hk⟩
    have A7 := Lib.hid ha
    have B7 := Lib.hid (B6.out.trans (hk.below_of B6.out.size))
    clear ha hk
    go_wp2_with fail
    refine (used_is F2.out A7.out).mono ?_
    rintro e w8 ⟨rfl, rfl⟩
    go_wp2_with fail
    go_ret
    exact ⟨rfl, B7.out⟩

set_option maxRecDepth 100000 in
theorem lifted (os : Os) (started : os.Started) (H : Type) (enc : TypeId × Value → H) :
    ReturnsInHanded {} Try.checked os 7 .any (Rows.waveNodesSpec.pre6 enc Try.prog Try.f7 Rows.waveNodesRow.domain false) (Rows.waveNodesSpec.post enc Try.prog Try.f7 false true false false) := by
  refine returnsInHanded_of_change (C := Try.checked) own_ started (by kernel_rfl) Try.func7
    (ChangeSpec.witness6 (enc := enc) (C := Try.checked) false ⟨#[], #[.slice none 0 0], []⟩ 8 (by kernel_rfl) (by kernel_rfl) (by kernel_rfl) (by kernel_rfl)) ?_
  intro W base args ds gs before hval0 hW _ _
  have hval : ∀ (j : Nat) t v, Try.f7.params[j]? = some t → args[j]? = some v → Value.okWide Try.prog W .any base t v := hval0
  have hW' := hW
  obtain ⟨p, q, hA0, hV, rfl, hfz, hnd⟩ := hW
  have hA : DataW.TrodAll enc Try.prog W 0 (fun _ => true) true Try.f7.params.toList args.toList ds p := hA0
  rw [Try.params7] at hA hval
  obtain ⟨v0, vs0, d0, ds0, p0, q0, hargs, rfl, rfl, h0, r0⟩ := trodAll_cons hA
  obtain ⟨rfl, rfl, rfl⟩ := trodAll_nil r0
  obtain rfl : args = #[v0] := by cases args; simp_all
  obtain ⟨x0, hx0⟩ := ints_arg (hval 0 22 v0 rfl rfl) h0
  clear hA0 hval0
  refine (walk v0 x0 W hx0).mono fun e W' ⟨he, hg⟩ => ?_
  subst he
  exact ⟨_, rfl, law_post laid_ (by kernel_rfl) rfl hW' hg rfl Try.underlying4 ⟨rfl, rfl, rfl⟩⟩

theorem over : Rows.waveNodesRow.holds Try.pinned (OpenSpec.ofChange Rows.waveNodesSpec) :=
  OpenClaim.holds_of_wide 7 Try.f7 rfl rfl rfl rfl rfl rfl rfl ⟨rfl, rfl, rfl, rfl, rfl⟩ rfl rfl rfl rfl rfl (by kernel_rfl) Try.func7 (by kernel_rfl)
    (of_decide_eq_true (by kernel_rfl)) (by unfold Func.isWrapper; first | (rw [if_pos (by decide +kernel)]; kernel_rfl) | (rw [if_neg (by decide +kernel)]; exact ⟨rfl, rfl⟩))
    (fun os started H enc _ => lifted os started H enc)

theorem proved : Rows.WaveNodesSaid :=
  over
#print axioms proved
end Go.Proofs.Ytdipgcbppggdhaa.waveNodes
