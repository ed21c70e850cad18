/- BitsNone holds: of what is no row nothing is told; with no arena nothing is made. No condition. -/
import Derived.Test.YtjfeocoengheaaaBw19
import Derived.Test.YtjfeocoengheaaaBn
namespace Go.Proofs.Ytjfeocoengheaaa.bitsNone
set_option maxRecDepth 100000
open Go.ChangeShapes Go.WideShapes Go.ChangeAt Go.RowKit
section
variable {K : Nat → Prop} {p : Nat} {s : Ar} {w : World}
set_option maxHeartbeats 1000000 in
theorem all_zero {h : Int} {v : View} (hv : Vw s h v) (h0 : v.len = 0) (hf : s.Fit) (ha : Ars w K p s) :
    Calls Try.prog 20 #[.pointer (some ⟨p, 0, none⟩), .int .i64 h] w fun e w' => e = .returned (.slice none 0 0) ∧ Below w.heap.size w w' := by
  have HL0 := blen_is hv ha hf
  rw [h0] at HL0
  have HL := Lib.hid (show Calls Try.prog 13 #[.pointer (some ⟨p, 0, none⟩), .int .i64 h] w fun r w' => r = .returned (.int .i64 0) ∧ Ars w' K p s ∧ Below w.heap.size w w' from HL0)
  clear HL0 hv h0 hf ha
  go_enter Try.func20, Try.ntmps20
  go_wp2_with fail
  refine HL.out.mono ?_
  clear HL
  rintro e w1 ⟨rfl, ha1, hk1⟩
  have B1 := Lib.hid hk1
  clear ha1 hk1
  go_wp2_with fail
  go_loopw [5, 12] (fun v i W => v = .slice none 0 0 ∧ i = .int .i64 0 ∧ W = w1) (fun _ _ _ => 0)
  case atStart => exact ⟨rfl, rfl, rfl⟩
  case round =>
    obtain ⟨rfl, rfl, rfl⟩ := hrel
    go_wp2_with fail
    go_ret
    exact ⟨rfl, B1.out⟩
end
theorem item_none {s : Ar} {x : Int} (hx : 1 ≤ x ∧ x ≤ s.n) (hu : s.u x.toNat = true) (hn : s.nd x.toNat = ⟨4, 0, 0, 0, 0, 5, 5⟩) (hc : 0 < s.count x) : Vw s x .none := by
  refine .inr ⟨hc, ?_⟩
  have : (s.get x).1 = ⟨4, 0, 0, 0, 0, 5, 5⟩ := by
    unfold Ar.get
    rw [if_neg (by rw [hu]; simp; omega)]
    exact hn
  rw [this]
  decide
theorem zero_none (s : Ar) : Vw s 0 .none := .inl (by unfold Ar.get; rw [if_pos (.inl (by decide))])
/-- The item that is made first. -/
theorem first : ∃ (s1 : Ar) (x : Int), (Ar.new 9).make ⟨4, 0, 0, 0, 0, 5, 5⟩ = (s1, x, 0) ∧ Gd s1 [x] ∧ s1.busy = 1 ∧ s1.made = 1 ∧ s1.n = 9 ∧ 1 ≤ x ∧ x ≤ 9 ∧ s1.u x.toNat = true ∧ s1.nd x.toNat = ⟨4, 0, 0, 0, 0, 5, 5⟩ := by
  rcases gd_make (gd_new (n := 9) (by decide) (by decide)) (x := ⟨4, 0, 0, 0, 0, 5, 5⟩) (by decide) (fun y hy => .inl (by simpa [Nd.kids] using hy)) with ⟨h, e, g, E, h1, h2, u, nd, b, m, _⟩ | ⟨_, h⟩
  · exact ⟨_, h, e, g, b, m, E.n, h1, h2, u, nd⟩
  · have : (0 : Int) = 9 := h
    omega
/-- What comes of a bit that is put in at i of no row. -/
theorem second (w : World) (i : Int) (one : Bool) : ∃ (s1 : Ar) (x : Int), (Ar.new 9).make ⟨4, 0, 0, 0, 0, 5, 5⟩ = (s1, x, 0) ∧ Snd s1 ∧ Vw s1 x .none ∧ ∃ (s2 : Ar) (q e : Int), Snd s2 ∧ Vw s2 x .none ∧ (i = 0 → e = 0) ∧ (i ≠ 0 → e = 3) ∧
    ∀ {p : Nat} {W : World}, Ars W (fun b => b < w.heap.size) p s1 → Calls Try.prog 17 #[.pointer (some ⟨p, 0, none⟩), .int .i64 0, .int .i64 i, .bool one] W fun o w' => o = .returned (.tuple #[.int .i64 q, .int .i64 e]) ∧ Ars w' (fun b => b < w.heap.size) p s2 ∧ Kept (fun b => b < w.heap.size) W w' := by
  obtain ⟨s1, x, e1, g1, b1, m1, n1, x1, x2, u1, nd1⟩ := first
  have sn1 : Snd s1 := g1.snd (by simp) (by omega)
  have c1 := g1.pos (g1.live x1 (by omega) List.mem_cons_self)
  refine ⟨s1, x, e1, sn1, item_none ⟨x1, by omega⟩ u1 nd1 c1, ?_⟩
  by_cases c : i = 0
  · subst c
    obtain ⟨s2, q, W2, g2, r2, k2⟩ := bInsert_yes (one := one) (i := 0) g1 (Row.zero _ _) (by simp) (by simp) (by simp) (by omega) (by
      show s1.busy + ((4 : Nat) : Int) < (s1.n : Int)
      omega)
    have n2 := W2.ext.n
    have m2 := W2.md
    refine ⟨s2, q, 0, g2.snd (by simp) (by omega), item_none ⟨x1, by omega⟩ (W2.ext.u _ u1) ((W2.ext.nd _ u1).trans nd1) (g2.pos (g2.live x1 (by omega) (by simp))), fun _ => rfl, fun h => absurd rfl h, fun ha => k2 ha⟩
  · refine ⟨s1, 0, 3, sn1, item_none ⟨x1, by omega⟩ u1 nd1 c1, fun h => absurd h c, fun _ => rfl, fun ha => (bInsert_no (zero_none s1) (by show i < 0 ∨ (0 : Int) < i; omega) sn1.fit ha).mono ?_⟩
    rintro o w' ⟨rfl, h1, h2⟩
    exact ⟨rfl, h1, Kept.of_below h2 _⟩
set_option maxRecDepth 100000 in
set_option maxHeartbeats 16000000 in
theorem walk (h : Int) (w0 : (Lit.int .i64 h).wf = true) (i : Int) (w1' : (Lit.int .i64 i).wf = true) (one : Bool) (w : World) :
    Calls Try.prog 5 #[.int .i64 h, .int .i64 i, .bool one] w fun e w' => e = .returned (.bool true) ∧ Below w.heap.size w w' := by
  have HA := Lib.hid alive8
  obtain ⟨s1, x, e1, sn1, v1, s2, q, e, sn2, v2, e0, e3, c2⟩ := second w i one
  have S1 := Lib.hid sn1
  have S2 := Lib.hid sn2
  have V1 := Lib.hid v1
  have V2 := Lib.hid v2
  have E1 := Lib.hid e1
  have C2 := Lib.hid (fun (p : Nat) (W : World) (ha : Ars W (fun b => b < w.heap.size) p s1) => c2 ha)
  have Hi := Lib.hid (show i < 0 ∨ 0 ≤ i by omega)
  clear sn1 sn2 v1 v2 e1 c2
  go_enter Try.func5, Try.ntmps5
  go_wp2_with fail
  refine (HA.out w).mono ?_
  rintro e w1 ⟨rfl, hb⟩
  have Hb := Lib.hid hb
  clear hb
  go_wp2_with fail
  refine (new_yes 9 _ (by decide) (by decide)).mono ?_
  rintro e w2 ⟨p, rfl, hb2, ha⟩
  have Ha := Lib.hid (ha (fun b => b < w.heap.size) (fun b hb => by have := Hb.out.size; omega))
  have B2 := Lib.hid (Hb.out.trans (hb2.mono Hb.out.size))
  clear Hb ha hb2
  go_wp2_with fail
  refine (make_is ⟨4, 0, 0, 0, 0, 5, 5⟩ E1.out Ha.out (B := 100000000000) (gd_new (n := 9) (by decide) (by decide) |>.snd (by simp) (by decide)) (by decide)).mono ?_
  rintro e w3 ⟨rfl, ha, hk⟩
  have A3 := Lib.hid ha
  have B3 := Lib.hid (B2.out.trans (hk.below_of B2.out.size))
  clear ha hk Ha B2
  go_wp2_with fail
  refine (bget_vw V1.out S1.out.fit A3.out (i := 0) (.inr (by show (0 : Int) ≤ 0; omega))).mono ?_
  rintro e w4 ⟨rfl, ha, hk⟩
  have A4 := Lib.hid ha
  have B4 := Lib.hid (B3.out.trans (hk.mono B3.out.size))
  clear ha hk A3 B3
  go_wp2_with fail
  refine (C2.out p _ A4.out).mono ?_
  rintro e' w5 ⟨rfl, ha, hk⟩
  have A5 := Lib.hid ha
  have B5 := Lib.hid (B4.out.trans (hk.below_of B4.out.size))
  clear ha hk A4 B4
  go_wp2_with fail
  refine (bInsert_nil _).mono ?_
  rintro e' w6 ⟨rfl, hk⟩
  have A6 := Lib.hid (A5.out.below hk)
  have B6 := Lib.hid (B5.out.trans (hk.mono B5.out.size))
  clear hk A5 B5
  go_wp2_with fail
  refine (bDelete_no (zero_none s2) (i := i) (by show i < 0 ∨ (0 : Int) ≤ i; omega) S2.out.fit A6.out).mono ?_
  rintro e' w7 ⟨rfl, ha, hk⟩
  have A7 := Lib.hid ha
  have B7 := Lib.hid (B6.out.trans (hk.mono B6.out.size))
  clear ha hk A6 B6
  go_wp2_with fail
  refine (bBuild_none).mono ?_
  rintro e' w8 ⟨rfl, hw⟩
  subst hw
  by_cases c : i = 0
  · obtain rfl : e = 0 := e0 c
    subst c
    clear e0 e3
    go_wp2_with fail
    refine (show Calls Try.prog 13 #[.pointer (some ⟨p, 0, none⟩), .int .i64 x] w7 fun r w' => r = .returned (.int .i64 0) ∧ Ars w' (fun b => b < w.heap.size) p s2 ∧ Below w7.heap.size w7 w' from blen_is V2.out A7.out S2.out.fit).mono ?_
    rintro e' w9 ⟨rfl, ha, hk⟩
    have A9 := Lib.hid ha
    have B9 := Lib.hid (B7.out.trans (hk.mono B7.out.size))
    clear ha hk A7 B7

    go_wp2_with fail
    refine (brank_vw V2.out S2.out.fit A9.out (i := 9) (.inr rfl)).mono ?_
    rintro e' w10 ⟨rfl, ha, hk⟩
    have A10 := Lib.hid ha
    have B10 := Lib.hid (B9.out.trans (hk.mono B9.out.size))
    clear ha hk A9 B9
    go_wp2_with fail
    refine (all_zero V2.out rfl S2.out.fit A10.out).mono ?_
    rintro e' w11 ⟨rfl, hk⟩
    have A11 := Lib.hid (A10.out.below hk)
    have B11 := Lib.hid (B10.out.trans (hk.mono B10.out.size))
    clear hk A10 B10
    go_wp2_with fail
    refine (blen_nil h _).mono ?_
    rintro e' w12 ⟨rfl, hk⟩
    have A12 := Lib.hid (A11.out.below hk)
    have B12 := Lib.hid (B11.out.trans (hk.mono B11.out.size))
    clear hk A11 B11
    go_wp2_with fail
    refine (bselect_vw (one := one) (i := 0) V2.out (n := 0) (by cases one <;> rfl) (Nat.le_refl _) S2.out.fit A12.out (.inr (by show (0 : Int) ≤ 0; omega))).mono ?_
    rintro e' w13 ⟨rfl, ha, hk⟩
    go_wp2_with fail
    go_ret
    exact ⟨rfl, B12.out.trans (hk.mono B12.out.size)⟩
  · obtain rfl : e = 3 := e3 c
    have ic : (i == 0) = false := by simpa using c
    clear e0 e3 c
    go_wp2_with fail
    refine (show Calls Try.prog 13 #[.pointer (some ⟨p, 0, none⟩), .int .i64 x] w7 fun r w' => r = .returned (.int .i64 0) ∧ Ars w' (fun b => b < w.heap.size) p s2 ∧ Below w7.heap.size w7 w' from blen_is V2.out A7.out S2.out.fit).mono ?_
    rintro e' w9 ⟨rfl, ha, hk⟩
    have A9 := Lib.hid ha
    have B9 := Lib.hid (B7.out.trans (hk.mono B7.out.size))
    clear ha hk A7 B7

    go_wp2_with fail
    refine (brank_vw V2.out S2.out.fit A9.out (i := 9) (.inr rfl)).mono ?_
    rintro e' w10 ⟨rfl, ha, hk⟩
    have A10 := Lib.hid ha
    have B10 := Lib.hid (B9.out.trans (hk.mono B9.out.size))
    clear ha hk A9 B9
    go_wp2_with fail
    refine (all_zero V2.out rfl S2.out.fit A10.out).mono ?_
    rintro e' w11 ⟨rfl, hk⟩
    have A11 := Lib.hid (A10.out.below hk)
    have B11 := Lib.hid (B10.out.trans (hk.mono B10.out.size))
    clear hk A10 B10
    go_wp2_with fail
    refine (blen_nil h _).mono ?_
    rintro e' w12 ⟨rfl, hk⟩
    have A12 := Lib.hid (A11.out.below hk)
    have B12 := Lib.hid (B11.out.trans (hk.mono B11.out.size))
    clear hk A11 B11
    go_wp2_with fail
    refine (bselect_vw (one := one) (i := 0) V2.out (n := 0) (by cases one <;> rfl) (Nat.le_refl _) S2.out.fit A12.out (.inr (by show (0 : Int) ≤ 0; omega))).mono ?_
    rintro e' w13 ⟨rfl, ha, hk⟩
    go_wp2_with fail
    go_ret
    exact ⟨rfl, B12.out.trans (hk.mono B12.out.size)⟩

set_option maxRecDepth 100000 in
theorem lifted (os : Os) (started : os.Started) (H : Type) (enc : TypeId × Value → H) :
    ReturnsInHanded {} Try.checked os 5 .any (Rows.bitsNoneSpec.pre6 enc Try.prog Try.f5 Rows.bitsNoneRow.domain false) (Rows.bitsNoneSpec.post enc Try.prog Try.f5 false true false false) := by
  refine returnsInHanded_of_change (C := Try.checked) own_ started (by kernel_rfl) Try.func5
    (ChangeSpec.witness6 (enc := enc) (C := Try.checked) false ⟨#[], #[.int .i64 0, .int .i64 0, .bool false], []⟩ 8 (by kernel_rfl) (by kernel_rfl) (by kernel_rfl) (by kernel_rfl)) ?_
  intro W base args ds gs before hval0 hW _ _
  have hval : ∀ (j : Nat) t v, Try.f5.params[j]? = some t → args[j]? = some v → Value.okWide Try.prog W .any base t v := hval0
  have hW' := hW
  obtain ⟨p, q, hA0, hV, rfl, hfz, hnd⟩ := hW
  have hA : DataW.TrodAll enc Try.prog W 0 (fun _ => true) true Try.f5.params.toList args.toList ds p := hA0
  rw [Try.params5] at hA hval
  obtain ⟨v0, vs0, d0, ds0, p0, q0, hargs, rfl, rfl, h0, r0⟩ := trodAll_cons hA
  obtain ⟨v1, vs1, d1, ds1, p1, q1, rfl, rfl, rfl, h1, r1⟩ := trodAll_cons r0
  obtain ⟨v2, vs2, d2, ds2, p2, q2, rfl, rfl, rfl, h2, r2⟩ := trodAll_cons r1
  obtain ⟨rfl, rfl, rfl⟩ := trodAll_nil r2
  obtain rfl : args = #[v0, v1, v2] := by cases args; simp_all
  obtain ⟨a0, rfl, rfl, rfl, w0⟩ := open_int Try.underlying3 (hval 0 3 v0 rfl rfl) h0
  obtain ⟨a1, rfl, rfl, rfl, w1⟩ := open_int Try.underlying3 (hval 1 3 v1 rfl rfl) h1
  obtain ⟨a2, rfl, rfl, rfl⟩ := open_bool Try.underlying4 (hval 2 4 v2 rfl rfl) h2
  clear hA0 hval0
  refine (walk a0 w0 a1 w1 a2 W ).mono fun e W' ⟨he, hg⟩ => ?_
  subst he
  exact ⟨_, rfl, law_post laid_ (by kernel_rfl) rfl hW' hg rfl Try.underlying4 ⟨rfl, rfl, rfl⟩⟩

theorem over : Rows.bitsNoneRow.holds Try.pinned (OpenSpec.ofChange Rows.bitsNoneSpec) :=
  OpenClaim.holds_of_wide 5 Try.f5 rfl rfl rfl rfl rfl rfl rfl ⟨rfl, rfl, rfl, rfl, rfl⟩ rfl rfl rfl rfl rfl (by kernel_rfl) Try.func5 (by kernel_rfl)
    (of_decide_eq_true (by kernel_rfl)) (by unfold Func.isWrapper; first | (rw [if_pos (by decide +kernel)]; kernel_rfl) | (rw [if_neg (by decide +kernel)]; exact ⟨rfl, rfl⟩))
    (fun os started H enc _ => lifted os started H enc)

theorem proved : Rows.BitsNoneSaid :=
  over
#print axioms proved
end Go.Proofs.Ytjfeocoengheaaa.bitsNone
