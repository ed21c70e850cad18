/- BitsShares holds: a row that differs in one bit shares nearly all its nodes with the one that it was made of. No condition. -/
import Derived.Test.YtjfeocoengheaaaBw26
namespace Go.Proofs.Ytjfeocoengheaaa.bitsShares
set_option maxRecDepth 100000
open Go.ChangeShapes Go.WideShapes Go.ChangeAt Go.RowKit
theorem pick (i m : Int) (h1 : 1 ≤ m) (h2 : m ≤ 1000) : IntKind.i64.wrap (i.tmod m) = i.tmod m ∧ IntKind.i64.wrap (i.tmod m + m) = i.tmod m + m ∧ ∃ k : Nat, (i.tmod m + m).tmod m = (k : Int) ∧ (k : Int) < m := by
  have a1 : i.tmod m < m := Int.tmod_lt_of_pos i (by omega)
  have a2 : -m < i.tmod m := by
    have := Int.lt_tmod_of_pos i (show 0 < m by omega)
    omega
  have a3 : 0 ≤ (i.tmod m + m) % m := Int.emod_nonneg _ (by omega)
  have a4 : (i.tmod m + m) % m < m := Int.emod_lt_of_pos _ (by omega)
  obtain ⟨k, hk⟩ := Int.eq_ofNat_of_zero_le a3
  refine ⟨bwrap_small (by omega) (by omega), bwrap_small (by omega) (by omega), k, ?_, by omega⟩
  rw [Int.tmod_eq_emod_of_nonneg (by omega)]
  exact hk
/-- All that the statement wants of the arena. -/
theorem facts {w : World} {v : Value} {xs : List Bool} (hx : BoolsArg w v xs) (h1 : 1 ≤ xs.length) (h6 : xs.length ≤ 600) {k : Nat} (hk : k ≤ xs.length) (one : Bool) :
    ∃ (s1 s2 s3 s4 : Ar) (q g : Int) (m W0 X : Nat), X = 4 + 4 * bl ((xs.length + 1) / 16) ∧ X ≤ 44 ∧ s2.drop g = (s3, 0) ∧ s3.work 1073741824 = (s4, m) ∧ 1 ≤ m ∧ s4.busy = W0 ∧ W0 ≤ 6000 ∧ Snd s1 ∧ Snd s2 ∧ Snd s3 ∧
      (∀ zs, Asc zs → (∀ x, x ∈ zs ↔ Rch s1 [q] x) → zs.length = W0) ∧ (∀ zs, Asc zs → (∀ x, x ∈ zs ↔ Rch s2 [q] x) → zs.length = W0) ∧ (∀ zs, Asc zs → (∀ x, x ∈ zs ↔ Rch s2 [g, q] x) → zs.length ≤ W0 + X) ∧
      (∀ (p : Nat) (W : World), Ars W (fun b => b < w.heap.size) p (Ar.new 2000) → Below w.heap.size w W → Calls Try.prog 12 #[.pointer (some ⟨p, 0, none⟩), v] W fun o W' => o = .returned (.tuple #[.int .i64 q, .int .i64 0]) ∧ Ars W' (fun b => b < w.heap.size) p s1 ∧ Below w.heap.size w W') ∧
      (∀ (p : Nat) (W : World), Ars W (fun b => b < w.heap.size) p s1 → Calls Try.prog 17 #[.pointer (some ⟨p, 0, none⟩), .int .i64 q, .int .i64 k, .bool one] W fun o W' => o = .returned (.tuple #[.int .i64 g, .int .i64 0]) ∧ Ars W' (fun b => b < w.heap.size) p s2 ∧ Kept (fun b => b < w.heap.size) W W') := by
  obtain ⟨s1, q, W1, g1, r1, wt1, c1⟩ := build_argw (s := Ar.new 2000) hx (by omega) (gd_new (by decide) (by decide)) (by simp) (by decide) (by
    show (0 : Int) + _ < ((2000 : Nat) : Int)
    omega)
  have m1 := W1.md
  have m0 : (Ar.new 2000).made - (Ar.new 2000).busy = 0 := rfl
  have n1 := W1.ext.n
  have n0 : (Ar.new 2000).n = 2000 := rfl
  have b0 : (Ar.new 2000).busy = 0 := rfl
  obtain ⟨k1, d1, d2, d3⟩ := W1.made
  have hh := hi_made (n := xs.length) (by omega)
  have hb := bl_mono (show xs.length / 16 ≤ (xs.length + 1) / 16 by omega)
  have hs := bl_small (m := (xs.length + 1) / 16) (by omega)
  obtain ⟨s2, g, W2, g2, r2, c2⟩ := bInsert_sure (one := one) (i := k) g1 r1 hk (by omega) (by simp) (by omega) (by omega)
  obtain ⟨s3, s4, m, W0, f1, f2, f3, f4, f5, f6, f7, f8, f9, f10, f11⟩ := share_facts g1 r1 wt1 (by omega) W2 g2 r2 (bIns_len hk)
  refine ⟨s1, s2, s3, s4, q, g, m, W0, _, rfl, by omega, f1, f2, f3, f4, f5, f6, f7, f8, f9, f10, fun zs a b => ?_, fun p W ha hb => c1 p W ha hb, fun p W ha => c2 ha⟩
  have := f11 zs a b
  omega
set_option maxRecDepth 100000 in
set_option maxHeartbeats 16000000 in
theorem walk (v : Value) (xs : List Bool) (i : Int) (_w2 : (Lit.int .i64 i).wf = true) (one : Bool) (w : World) (hx : BoolsArg w v xs) :
    Calls Try.prog 8 #[v, .int .i64 i, .bool one] w fun e w' => e = .returned (.bool true) ∧ Below w.heap.size w w' := by
  have HA := Lib.hid alive8
  obtain ⟨av, cv, hv⟩ := hx.val
  obtain ⟨n, hn⟩ : ∃ n, n = xs.length := ⟨_, rfl⟩
  rw [← hn] at hv
  by_cases h0 : n < 1
  · subst hv
    have h3 : (n : Int) < 1 := by omega
    clear hx hn h0
    go_enter Try.func8, Try.ntmps8
    go_wp2_with fail
    refine (HA.out w).mono ?_
    rintro e w1 ⟨rfl, hb⟩
    go_wp2_with fail
    go_ret
    exact ⟨rfl, hb⟩
  by_cases h600 : 600 < n
  · subst hv
    have h3 : (600 : Int) < (n : Int) := by omega
    clear hx hn h600 h0
    go_enter Try.func8, Try.ntmps8
    go_wp2_with fail
    refine (HA.out w).mono ?_
    rintro e w1 ⟨rfl, hb⟩
    go_wp2_with fail
    go_ret
    exact ⟨rfl, hb⟩
  obtain ⟨p1, p2, k, p4, p5⟩ := pick i (n : Int) (by omega) (by omega)
  obtain ⟨s1, s2, s3, s4, q, g, m, W0, X, hX, X44, f1, f2, f3, f4, f5, f6, f7, f8, f9, f10, f11, c1, c2⟩ := facts hx (by omega) (by omega) (k := k) (by omega) one
  have C1 := Lib.hid c1
  have C2 := Lib.hid c2
  have F1 := Lib.hid f1
  have F2 := Lib.hid f2
  have F4 := Lib.hid f4
  have F6 := Lib.hid f6
  have F7 := Lib.hid f7
  have F8 := Lib.hid f8
  have F9 := Lib.hid f9
  have F10 := Lib.hid f10
  have F11 := Lib.hid f11
  rw [← hn] at hX
  have HM := fun w => Lib.hid (show Calls Try.prog 24 #[.int .i64 ((n : Int) + 1)] w fun e w' => e = .returned (.int .i64 (X : Nat)) ∧ w = w' from by rw [hX]; exact made_num (n + 1) (by omega) w)
  have l1 : (1 : Int) ≤ (n : Int) := by omega
  have l2 : (n : Int) ≤ 600 := by omega
  have l3 : (X : Int) ≤ 44 := by omega
  have l4 : (W0 : Int) ≤ 6000 := by omega
  have l5 : (1 : Int) ≤ (m : Int) := by omega
  have nz : ((n : Int) == 0) = false := beq_eq_false_iff_ne.2 (by omega)
  clear hX X44 f1 f2 f3 f4 f5 f6 f7 f8 f9 f10 f11 c1 c2 hn h0 h600 p5 hx
  subst hv
  go_enter Try.func8, Try.ntmps8
  go_wp2_with fail
  refine (HA.out w).mono ?_
  rintro e w1 ⟨rfl, hb⟩
  have Hb := Lib.hid hb
  clear hb
  go_wp2_with fail
  refine (new_yes 2000 _ (by decide) (by decide)).mono ?_
  rintro e w2 ⟨p, rfl, hb2, ha⟩
  have Ha := Lib.hid (ha (fun b => b < w.heap.size) (fun b hb => by have := Hb.out.size; omega))
  have Hb2 := Lib.hid (Hb.out.trans (hb2.mono Hb.out.size))
  clear Hb ha hb2
  go_wp2_with fail
  refine (C1.out p _ Ha.out Hb2.out).mono ?_
  rintro e w3 ⟨rfl, ha, hb⟩
  have A3 := Lib.hid (ha.alloc (.cells #[.int .i64 q] 3))
  have B3 := Lib.hid (hb.alloc hb.size (.cells #[.int .i64 q] 3))
  clear ha hb C1 Ha Hb2
  go_wp2_with fail
  refine (reach_len A3.out F6.out.fit (ints_one w3 q) (by show 1 ≤ 100; omega) F9.out).mono ?_
  rintro e w4 ⟨⟨ra, rc, rfl⟩, hk⟩
  have A4 := Lib.hid (A3.out.below hk)
  have B4 := Lib.hid (B3.out.trans (hk.mono B3.out.size))
  clear hk A3 B3
  go_wp2_with fail
  refine (C2.out p _ A4.out).mono ?_
  rintro e w5 ⟨rfl, ha, hk⟩
  have A5 := Lib.hid (ha.alloc (.cells #[.int .i64 q] 3))
  have B5a := B4.out.trans (hk.below_of B4.out.size)
  have B5 := Lib.hid (B5a.alloc B5a.size (.cells #[.int .i64 q] 3))
  clear ha hk C2 A4 B4 B5a
  go_wp2_with fail
  refine (reach_len A5.out F7.out.fit (ints_one w5 q) (by show 1 ≤ 100; omega) F10.out).mono ?_
  rintro e w6 ⟨⟨rb, rd, rfl⟩, hk⟩
  have A6 := Lib.hid ((A5.out.below hk).alloc (.cells #[.int .i64 g, .int .i64 q] 3))
  have B6a := B5.out.trans (hk.mono B5.out.size)
  have B6 := Lib.hid (B6a.alloc B6a.size (.cells #[.int .i64 g, .int .i64 q] 3))
  clear hk A5 B5 B6a
  go_wp2_with fail
  refine (reach_most A6.out F7.out.fit (ints_two w6 g q) (by show 2 ≤ 100; omega) F11.out).mono ?_
  rintro e w7 ⟨⟨re, rf, m7, hm7, rfl⟩, hk⟩
  have A7 := Lib.hid (A6.out.below hk)
  have B7 := Lib.hid (B6.out.trans (hk.mono B6.out.size))
  have l6 : (m7 : Int) ≤ (W0 : Int) + (X : Int) := by omega
  clear hk A6 B6 hm7
  go_wp2_with fail
  refine (HM _).out.mono ?_
  rintro e w8 ⟨rfl, rfl⟩
  go_wp2_with fail
  refine (drop_is g F1.out A7.out F7.out.fit).mono ?_
  rintro e w8 ⟨rfl, ha, hk⟩
  have A8 := Lib.hid ha
  have B8 := Lib.hid (B7.out.trans (hk.below_of B7.out.size))
  clear ha hk A7 B7
  go_wp2_with fail
  refine (work_is (B := 100000000000) 1073741824 F2.out rfl A8.out F8.out (by decide) (by decide)).mono ?_
  rintro e w9 ⟨rfl, ha, hk⟩
  have A9 := Lib.hid ha
  have B9 := Lib.hid (B8.out.trans (hk.below_of B8.out.size))
  clear ha hk A8 B8
  go_wp2_with fail
  refine (used_is F4.out A9.out).mono ?_
  rintro e w10 ⟨rfl, rfl⟩
  go_wp2_with fail
  go_ret
  exact ⟨rfl, B9.out⟩

set_option maxRecDepth 100000 in
theorem lifted (os : Os) (started : os.Started) (H : Type) (enc : TypeId × Value → H) :
    ReturnsInHanded {} Try.checked os 8 .any (Rows.bitsSharesSpec.pre6 enc Try.prog Try.f8 Rows.bitsSharesRow.domain false) (Rows.bitsSharesSpec.post enc Try.prog Try.f8 false true false false) := by
  refine returnsInHanded_of_change (C := Try.checked) own_ started (by kernel_rfl) Try.func8
    (ChangeSpec.witness6 (enc := enc) (C := Try.checked) false ⟨#[], #[.slice none 0 0, .int .i64 0, .bool false], []⟩ 8 (by kernel_rfl) (by kernel_rfl) (by kernel_rfl) (by kernel_rfl)) ?_
  intro W base args ds gs before hval0 hW _ _
  have hval : ∀ (j : Nat) t v, Try.f8.params[j]? = some t → args[j]? = some v → Value.okWide Try.prog W .any base t v := hval0
  have hW' := hW
  obtain ⟨p, q, hA0, hV, rfl, hfz, hnd⟩ := hW
  have hA : DataW.TrodAll enc Try.prog W 0 (fun _ => true) true Try.f8.params.toList args.toList ds p := hA0
  rw [Try.params8] at hA hval
  obtain ⟨v0, vs0, d0, ds0, p0, q0, hargs, rfl, rfl, h0, r0⟩ := trodAll_cons hA
  obtain ⟨v1, vs1, d1, ds1, p1, q1, rfl, rfl, rfl, h1, r1⟩ := trodAll_cons r0
  obtain ⟨v2, vs2, d2, ds2, p2, q2, rfl, rfl, rfl, h2, r2⟩ := trodAll_cons r1
  obtain ⟨rfl, rfl, rfl⟩ := trodAll_nil r2
  obtain rfl : args = #[v0, v1, v2] := by cases args; simp_all
  obtain ⟨x0, hx0⟩ := bools_arg (hval 0 22 v0 rfl rfl) h0
  obtain ⟨a1, rfl, rfl, rfl, w1⟩ := open_int Try.underlying3 (hval 1 3 v1 rfl rfl) h1
  obtain ⟨a2, rfl, rfl, rfl⟩ := open_bool Try.underlying4 (hval 2 4 v2 rfl rfl) h2
  clear hA0 hval0
  refine (walk v0 x0 a1 w1 a2 W hx0).mono fun e W' ⟨he, hg⟩ => ?_
  subst he
  exact ⟨_, rfl, law_post laid_ (by kernel_rfl) rfl hW' hg rfl Try.underlying4 ⟨rfl, rfl, rfl⟩⟩

theorem over : Rows.bitsSharesRow.holds Try.pinned (OpenSpec.ofChange Rows.bitsSharesSpec) :=
  OpenClaim.holds_of_wide 8 Try.f8 rfl rfl rfl rfl rfl rfl rfl ⟨rfl, rfl, rfl, rfl, rfl⟩ rfl rfl rfl rfl rfl (by kernel_rfl) Try.func8 (by kernel_rfl)
    (of_decide_eq_true (by kernel_rfl)) (by unfold Func.isWrapper; first | (rw [if_pos (by decide +kernel)]; kernel_rfl) | (rw [if_neg (by decide +kernel)]; exact ⟨rfl, rfl⟩))
    (fun os started H enc _ => lifted os started H enc)

theorem proved : Rows.BitsSharesSaid :=
  over
#print axioms proved
end Go.Proofs.Ytjfeocoengheaaa.bitsShares
