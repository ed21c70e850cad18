/- BitsBuild holds: a row that is built at once is as one that is made bit by bit; both stand in as many nodes as may be. No condition. -/
import Derived.Test.YtjfeocoengheaaaBw27
namespace Go.Proofs.Ytjfeocoengheaaa.bitsBuild
set_option maxRecDepth 100000
open Go.ChangeShapes Go.WideShapes Go.ChangeAt Go.RowKit
/-- The row that is made bit by bit, beside the one that was built. -/
structure Bst (w : World) (p : Nat) (xs : List Bool) (h : Int) (i : Nat) (g : Int) (s : Ar) (W : World) : Prop where
  ars : Ars W (fun b => b < w.heap.size) p s
  bel : Below w.heap.size w W
  gd : Gd s [g, h]
  rg : Row s [g, h] g (xs.take i)
  rh : Row s [g, h] h xs
  wt : s.wt = []
  n : s.n = 2000
  made : s.made ≤ (10 + i * 25 : Nat)
section
variable {w W : World} {p i : Nat} {xs : List Bool} {h g : Int} {s : Ar}
theorem Bst.busy (b : Bst w p xs h i g s W) (hx : xs.length ≤ 300) (hi' : i ≤ xs.length) : s.busy ≤ 76 := by
  obtain ⟨t, a1, a2, _, _, a5, _⟩ := b.rg.tree
  obtain ⟨u, c1, c2, _, _, c5, _⟩ := b.rh.tree
  have hl : (xs.take i).length = i := by rw [List.length_take]; omega
  have := nodup_sub (usedL_nodup s) (b := nods s t g ++ nods s u h) fun x hx => by
    obtain ⟨r, hr, hx⟩ := rch_any (used_reached b.gd b.wt hx)
    have : r = g ∨ r = h := by simpa using hr
    rcases this with rfl | rfl
    · exact List.mem_append_left _ (rch_nods a1 hx)
    · exact List.mem_append_right _ (rch_nods c1 hx)
  rw [List.length_append, nods_len, nods_len] at this
  rw [b.gd.busy_is]
  omega
theorem hi_300 {n : Nat} (hn : n ≤ 300) : hi n ≤ 6 := by
  unfold hi
  repeat' split
  all_goals omega
theorem Bst.snd (b : Bst w p xs h i g s W) (hx : xs.length ≤ 300) (hi' : i ≤ xs.length) : Snd s := b.gd.snd (by simp) (by
  have := b.made
  have := b.gd.busy_le
  omega)
theorem Bst.step (b : Bst w p xs h i g s W) (hx : xs.length ≤ 300) (hi' : i < xs.length) : ∃ (s2 : Ar) (q : Int) (s3 s4 : Ar) (m : Nat),
    (∀ W, Ars W (fun b => b < w.heap.size) p s → Calls Try.prog 17 #[.pointer (some ⟨p, 0, none⟩), .int .i64 g, .int .i64 i, .bool (xs.getD i false)] W fun o w' => o = .returned (.tuple #[.int .i64 q, .int .i64 0]) ∧ Ars w' (fun b => b < w.heap.size) p s2 ∧ Kept (fun b => b < w.heap.size) W w') ∧
    (g = 0 → s3 = s2) ∧ (g ≠ 0 → s2.drop g = (s3, 0)) ∧ s3.work 100 = (s4, m) ∧ Snd s2 ∧ Snd s3 ∧ ∀ W', Ars W' (fun b => b < w.heap.size) p s4 → Below w.heap.size w W' → Bst w p xs h (i + 1) q s4 W' := by
  have hl : (xs.take i).length = i := by rw [List.length_take]; omega
  have hb := b.busy hx (by omega)
  have hm := b.made
  have hbl := b.gd.busy_le
  have hn := b.n
  have hh := hi_300 (n := (xs.take i).length) (by omega)
  obtain ⟨s2, q, W2, g2, r2, c2⟩ := bInsert_sure (one := xs.getD i false) (i := i) b.gd b.rg (by omega) (by omega) (by simp) (by omega) (by omega)
  rw [ins_succ hi'] at r2
  obtain ⟨k, k1, k2, k3⟩ := W2.made
  have n2 := W2.ext.n
  have rh2 := b.rh.ext W2.ext (L' := [q, g, h]) (fun x hx => List.mem_cons_of_mem _ hx)
  have key : ∃ s3, (g = 0 → s3 = s2) ∧ (g ≠ 0 → s2.drop g = (s3, 0)) ∧ Gd s3 [q, h] ∧ Row s3 [q, h] q (xs.take (i + 1)) ∧ Row s3 [q, h] h xs ∧ s3.busy = s2.busy ∧ s3.made = s2.made ∧ s3.n = s2.n := by
    by_cases g0 : g = 0
    · subst g0
      refine ⟨s2, fun _ => rfl, fun e => absurd rfl e, g2.swap.unzero, ?_, ?_, rfl, rfl, rfl⟩
      · obtain ⟨t, a, _, c⟩ := r2
        exact ⟨t, a, .inr (by simp), c⟩
      · obtain ⟨t, a, _, c⟩ := rh2
        exact ⟨t, a, .inr (by simp), c⟩
    · obtain ⟨t, a, _⟩ := b.rg
      have hg1 : 1 ≤ g := by have := a.range; omega
      have hgc : s2.count g ≠ 0 := g2.live hg1 (by rw [n2]; exact a.range.2) (by simp)
      exact ⟨(s2.drop g).1, fun e => absurd e g0, fun _ => by unfold Ar.drop; rw [if_neg hgc], gd_drop g2.swap (by omega) (by rw [n2]; exact a.range.2), r2.drop g (.inr (by simp)), rh2.drop g (.inr (by simp)), drop_busy s2 g, drop_made s2 g, drop_n s2 g⟩
  obtain ⟨s3, e1, e2, g3, r3, rh3, b3, m3, n3⟩ := key
  have hbl3 := g3.busy_le
  refine ⟨s2, q, s3, (s3.work 100).1, (s3.work 100).2, fun W ha => c2 ha, e1, e2, rfl, g2.snd (by simp) (by omega), g3.snd (by simp) (by omega), fun W' ha hB => ⟨ha, hB, gd_work g3 100, r3.work g3 100, rh3.work g3 100, work_none 100 s3 g3 (by omega), (work_nn 100 s3).trans (by omega), ?_⟩⟩
  rw [work_made]
  omega
end
set_option maxRecDepth 100000 in
set_option maxHeartbeats 16000000 in
theorem walk (v : Value) (xs : List Bool) (w : World) (hx : BoolsArg w v xs) :
    Calls Try.prog 7 #[v] w fun e w' => e = .returned (.bool true) ∧ Below w.heap.size w w' := by
  have HA := Lib.hid alive8
  obtain ⟨av, cv, hv⟩ := hx.val
  obtain ⟨n, hn⟩ : ∃ n, n = xs.length := ⟨_, rfl⟩
  rw [← hn] at hv
  by_cases h300 : 300 < n
  · subst hv
    have h3 : (300 : Int) < (n : Int) := by omega
    clear hx hn h300
    go_enter Try.func7, Try.ntmps7
    go_wp2_with fail
    refine (HA.out w).mono ?_
    rintro e w1 ⟨rfl, hb⟩
    go_wp2_with fail
    go_ret
    exact ⟨rfl, hb⟩
  have HN := Lib.hid hn
  have HX := Lib.hid hx
  have Hn := Lib.hid (show n ≤ 300 by omega)
  have h3 : (n : Int) ≤ 300 := by omega
  obtain ⟨s1, q, W1, g1, r1, wt1, c1⟩ := build_argw (s := Ar.new 2000) hx (by omega) (gd_new (by decide) (by decide)) (by simp) (by decide) (by
    show (0 : Int) + _ < ((2000 : Nat) : Int)
    omega)
  obtain ⟨k1, d1, d2, d3⟩ := W1.made
  have m0 : (Ar.new 2000).made = 0 := rfl
  have hmd : s1.made ≤ 4 + (n : Int) := by omega
  have hst := Lib.hid (fun (p : Nat) (W : World) (ha : Ars W (fun b => b < w.heap.size) p s1) (hB : Below w.heap.size w W) => show Bst w p xs q 0 0 s1 W from ⟨ha, hB, g1.zero, Row.zero _ _, (by
    obtain ⟨t, a, _, c⟩ := r1
    exact ⟨t, a, .inr (by simp), c⟩), wt1, W1.ext.n, by omega⟩)
  have C1 := Lib.hid c1
  have A1 := Lib.hid (fun (p : Nat) (W : World) (ha : Ars W (fun b => b < w.heap.size) p s1) => made_is (c := s1.made) rfl ha)
  clear c1 W1 g1 r1 wt1 k1 d1 d2 d3 m0 hx hn h300
  generalize s1.made = md at *
  subst hv
  go_enter Try.func7, Try.ntmps7
  go_wp2_with fail
  refine (HA.out w).mono ?_
  rintro e w1 ⟨rfl, hb⟩
  have Hb := Lib.hid hb
  clear hb
  go_wp2_with fail
  refine (new_yes 2000 _ (by decide) (by decide)).mono ?_
  rintro e w2 ⟨p, rfl, hb2, ha⟩
  have Ha := Lib.hid (ha (fun b => b < w.heap.size) (fun b hb => by have := Hb.out.size; omega))
  have Hb2 := Lib.hid (Hb.out.trans (hb2.mono Hb.out.size))
  clear Hb ha hb2
  go_wp2_with fail
  refine (C1.out p _ Ha.out Hb2.out).mono ?_
  rintro e w3 ⟨rfl, ha, hb⟩
  have H0 := Lib.hid (hst.out p _ ha hb)
  have HMd := Lib.hid (A1.out p _ ha)
  clear ha hb C1 Ha Hb2 hst A1
  go_wp2_with fail
  refine HMd.out.mono ?_
  rintro e w4 ⟨rfl, rfl⟩
  clear HMd
  go_wp2_with fail
  go_loopw [6, 38] (fun g j W => ∃ (i : Nat) (gg : Int) (s : Ar), j = .int .i64 (i : Int) ∧ i ≤ n ∧ g = .int .i64 gg ∧ Bst w p xs q i gg s W) (fun _ j _ => n - (intOf j).toNat)
  case atStart => exact ⟨0, 0, s1, rfl, by omega, rfl, H0.out⟩
  case round =>
    obtain ⟨i, g, s, rfl, i1, rfl, hd⟩ := hrel
    have D := Lib.hid hd
    clear hd H0
    by_cases hi' : i < n
    · obtain ⟨b, off, rfl, hcv, hce⟩ : ∃ b off, av = some ⟨b, off, none⟩ ∧ n ≤ cv ∧ wr.cell? ⟨b, off + i, none⟩ = some (.bool (xs.getD i false)) := by
        obtain ⟨b, off, c, e, hb, hc, _, h⟩ := HX.out.cell i (by have := HN.out; omega)
        injection e with e1 e2 e3
        subst e1 e3
        exact ⟨b, off, rfl, by rw [HN.out]; exact hc, (D.out.bel.cell (p := ⟨b, off + i, none⟩) hb).trans (h i (by have := HN.out; omega))⟩
      obtain ⟨s2, q2, s3, s4, m, hc, e1, e2, hwk, sn2, sn3, hp⟩ := D.out.step (by rw [← HN.out]; exact Hn.out) (by rw [← HN.out]; exact hi')
      have C2 := Lib.hid (hc _ D.out.ars)
      have Wk := Lib.hid hwk
      have S2 := Lib.hid sn2
      have S3 := Lib.hid sn3
      have HP := Lib.hid hp
      have iI : (i : Int) < (n : Int) := by omega
      clear hc hwk sn2 sn3 hp
      generalize xs.getD i false = y at *
      by_cases g0 : g = 0
      · obtain rfl := e1 g0
        subst g0
        clear e1 e2
        go_wp2_with fail
        refine C2.out.mono ?_
        rintro e w5 ⟨rfl, ha, hk⟩
        have A5 := Lib.hid ha
        have B5 := Lib.hid (D.out.bel.trans (hk.below_of D.out.bel.size))
        clear ha hk
        go_wp2_with fail
        refine (work_is (B := 100000000000) 100 Wk.out rfl A5.out S3.out (by decide) (by decide)).mono ?_
        rintro e w7 ⟨rfl, ha, hk⟩
        have D7 := Lib.hid (HP.out _ ha (B5.out.trans (hk.below_of B5.out.size)))
        clear ha hk
        go_wp2_with fail
        go_roundw
        case rel => exact ⟨i + 1, q2, s4, by go_num, by omega, rfl, D7.out⟩
        case measure => simp [intOf]; omega
      · have E2 := Lib.hid (e2 g0)
        have gz : (g == 0) = false := by simpa using g0
        have gn : (g != 0) = true := by simpa using g0
        clear e1 e2
        go_wp2_with fail
        refine C2.out.mono ?_
        rintro e w5 ⟨rfl, ha, hk⟩
        have A5' := Lib.hid ha
        have B5' := Lib.hid (D.out.bel.trans (hk.below_of D.out.bel.size))
        clear ha hk
        go_wp2_with fail
        refine (drop_is g E2.out A5'.out S2.out.fit).mono ?_
        rintro e w6 ⟨rfl, ha, hk⟩
        have A5 := Lib.hid ha
        have B5 := Lib.hid (B5'.out.trans (hk.below_of B5'.out.size))
        clear ha hk A5' B5'
        go_wp2_with fail
        refine (work_is (B := 100000000000) 100 Wk.out rfl A5.out S3.out (by decide) (by decide)).mono ?_
        rintro e w7 ⟨rfl, ha, hk⟩
        have D7 := Lib.hid (HP.out _ ha (B5.out.trans (hk.below_of B5.out.size)))
        clear ha hk
        go_wp2_with fail
        go_roundw
        case rel => exact ⟨i + 1, q2, s4, by go_num, by omega, rfl, D7.out⟩
        case measure => simp [intOf]; omega
    · obtain rfl : n = i := by omega
      have sn := Lib.hid (D.out.snd (by rw [← HN.out]; exact Hn.out) (by rw [← HN.out]; exact Nat.le_refl _))
      have rg := D.out.rg
      rw [List.take_of_length_le (by rw [HN.out]; exact Nat.le_refl _)] at rg
      have RG := Lib.hid rg
      have RH := Lib.hid D.out.rh
      have G := Lib.hid D.out.gd
      have MG := Lib.hid (fun (zs : List Int) (ha : Asc zs) (hz : ∀ x, x ∈ zs ↔ Rch s [g] x) => show zs.length ≤ 1 + n / 4 by
        obtain ⟨t, a1, _, _, _, a5, _⟩ := RG.out.tree
        have := reach_row a1 ha hz
        have := HN.out
        omega)
      have MH := Lib.hid (fun (zs : List Int) (ha : Asc zs) (hz : ∀ x, x ∈ zs ↔ Rch s [q] x) => show zs.length ≤ 1 + n / 4 by
        obtain ⟨t, a1, _, _, _, a5, _⟩ := RH.out.tree
        have := reach_row a1 ha hz
        have := HN.out
        omega)
      have Hb0 := Lib.hid HX.out.bools
      have B0 := Lib.hid D.out.bel
      have A0 := Lib.hid D.out.ars
      clear rg i1 hi' D
      go_wp2_with fail
      refine (ball_is G.out sn.out RH.out (by have := HN.out; have := Hn.out; omega) A0.out).mono ?_
      rintro e w8 ⟨v8, K8, rfl, l8, _, b8⟩
      have B8 := Lib.hid (B0.out.trans (b8.mono B0.out.size))
      have A8 := Lib.hid (A0.out.below b8)
      have L8 := Lib.hid l8.bools
      clear b8 l8 B0 A0
      go_wp2_with fail
      refine (same_bools_is (xs := xs) L8.out (Hb0.out.below B8.out) (by have := HN.out; have := Hn.out; omega)).mono ?_
      rintro e w9 ⟨rfl, b9⟩
      have B9 := Lib.hid (B8.out.trans (b9.mono B8.out.size))
      have A9 := Lib.hid (A8.out.below b9)
      clear b9 B8 A8
      go_wp2_with fail
      refine (ball_is G.out sn.out RG.out (by have := HN.out; have := Hn.out; omega) A9.out).mono ?_
      rintro e w10 ⟨v10, K10, rfl, l10, _, b10⟩
      have B10 := Lib.hid (B9.out.trans (b10.mono B9.out.size))
      have A10 := Lib.hid (A9.out.below b10)
      have L10 := Lib.hid l10.bools
      clear b10 l10 B9 A9
      go_wp2_with fail
      refine (same_bools_is (xs := xs) L10.out (Hb0.out.below B10.out) (by have := HN.out; have := Hn.out; omega)).mono ?_
      rintro e w11 ⟨rfl, b11⟩
      have B11a := B10.out.trans (b11.mono B10.out.size)
      have B11 := Lib.hid (B11a.alloc B11a.size (.cells #[.int .i64 g] 3))
      have A11 := Lib.hid ((A10.out.below b11).alloc (.cells #[.int .i64 g] 3))
      clear b11 B10 A10 B11a
      go_wp2_with fail
      refine (reach_most A11.out sn.out.fit (ints_one w11 g) (by show 1 ≤ 100; omega) MG.out).mono ?_
      rintro e w12 ⟨⟨ra, rb, mg, hmg, rfl⟩, b12⟩
      have B12a := B11.out.trans (b12.mono B11.out.size)
      have B12 := Lib.hid (B12a.alloc B12a.size (.cells #[.int .i64 q] 3))
      have A12 := Lib.hid ((A11.out.below b12).alloc (.cells #[.int .i64 q] 3))
      have k1 : (mg : Int) ≤ 1 + (n : Int) / 4 := by omega
      clear b12 B11 A11 B12a hmg
      go_wp2_with fail
      refine (reach_most A12.out sn.out.fit (ints_one w12 q) (by show 1 ≤ 100; omega) MH.out).mono ?_
      rintro e w13 ⟨⟨rc, rd, mh, hmh, rfl⟩, b13⟩
      have B13 := Lib.hid (B12.out.trans (b13.mono B12.out.size))
      have A13 := Lib.hid (A12.out.below b13)
      have k2 : (mh : Int) ≤ 1 + (n : Int) / 4 := by omega
      clear b13 B12 A12 hmh
      go_wp2_with fail
      refine (deep_row G.out sn.out RH.out A13.out).mono ?_
      rintro e w14 ⟨⟨d, hd, rfl⟩, b14⟩
      have B14 := Lib.hid (B13.out.trans (b14.mono B13.out.size))
      have k3 : (d : Int) ≤ 6 := by have := hi_300 (n := xs.length) (by have := HN.out; have := Hn.out; omega); omega
      clear b14 B13 A13 hd
      go_wp2_with fail
      refine (wide_num n (by have := Hn.out; omega) _).mono ?_
      rintro e w15 ⟨⟨z, z1, z2, rfl⟩, rfl⟩
      have k4 : (7 : Int) ≤ (z : Int) := by omega
      have k5 : (z : Int) ≤ 11 := by omega
      have k6 : (d : Int) ≤ 4 + 2 * (z : Int) := by omega
      go_wp2_with fail
      go_ret
      exact ⟨rfl, B14.out⟩

set_option maxRecDepth 100000 in
theorem lifted (os : Os) (started : os.Started) (H : Type) (enc : TypeId × Value → H) :
    ReturnsInHanded {} Try.checked os 7 .any (Rows.bitsBuildSpec.pre6 enc Try.prog Try.f7 Rows.bitsBuildRow.domain false) (Rows.bitsBuildSpec.post enc Try.prog Try.f7 false true false false) := by
  refine returnsInHanded_of_change (C := Try.checked) own_ started (by kernel_rfl) Try.func7
    (ChangeSpec.witness6 (enc := enc) (C := Try.checked) false ⟨#[], #[.slice none 0 0], []⟩ 8 (by kernel_rfl) (by kernel_rfl) (by kernel_rfl) (by kernel_rfl)) ?_
  intro W base args ds gs before hval0 hW _ _
  have hval : ∀ (j : Nat) t v, Try.f7.params[j]? = some t → args[j]? = some v → Value.okWide Try.prog W .any base t v := hval0
  have hW' := hW
  obtain ⟨p, q, hA0, hV, rfl, hfz, hnd⟩ := hW
  have hA : DataW.TrodAll enc Try.prog W 0 (fun _ => true) true Try.f7.params.toList args.toList ds p := hA0
  rw [Try.params7] at hA hval
  obtain ⟨v0, vs0, d0, ds0, p0, q0, hargs, rfl, rfl, h0, r0⟩ := trodAll_cons hA
  obtain ⟨rfl, rfl, rfl⟩ := trodAll_nil r0
  obtain rfl : args = #[v0] := by cases args; simp_all
  obtain ⟨x0, hx0⟩ := bools_arg (hval 0 22 v0 rfl rfl) h0
  clear hA0 hval0
  refine (walk v0 x0 W hx0).mono fun e W' ⟨he, hg⟩ => ?_
  subst he
  exact ⟨_, rfl, law_post laid_ (by kernel_rfl) rfl hW' hg rfl Try.underlying4 ⟨rfl, rfl, rfl⟩⟩

theorem over : Rows.bitsBuildRow.holds Try.pinned (OpenSpec.ofChange Rows.bitsBuildSpec) :=
  OpenClaim.holds_of_wide 7 Try.f7 rfl rfl rfl rfl rfl rfl rfl ⟨rfl, rfl, rfl, rfl, rfl⟩ rfl rfl rfl rfl rfl (by kernel_rfl) Try.func7 (by kernel_rfl)
    (of_decide_eq_true (by kernel_rfl)) (by unfold Func.isWrapper; first | (rw [if_pos (by decide +kernel)]; kernel_rfl) | (rw [if_neg (by decide +kernel)]; exact ⟨rfl, rfl⟩))
    (fun os started H enc _ => lifted os started H enc)

theorem proved : Rows.BitsBuildSaid :=
  over
#print axioms proved
end Go.Proofs.Ytjfeocoengheaaa.bitsBuild
