/- WaveNone holds: of what is no row, and of symbols that are none, nothing is told; with no arena nothing is made. No condition. -/
import Derived.Test.YtdipgcbppggdhaaWv15
import Derived.Test.YtdipgcbppggdhaaWv16
namespace Go.Proofs.Ytdipgcbppggdhaa.waveNone
set_option maxRecDepth 100000
open Go.ChangeShapes Go.WideShapes Go.ChangeAt Go.RowKit

theorem low_byte (s : Int) : ∃ m : Nat, m ≤ 255 ∧ bits BinOp.and IntKind.i64 s 255 = (m : Int) := by
  have h : (BitVec.ofInt 64 s &&& BitVec.ofInt 64 255).toNat ≤ 255 := by
    rw [BitVec.toNat_and]
    exact Nat.and_le_right
  refine ⟨_, h, ?_⟩
  show IntKind.i64.wrap ((BitVec.ofInt 64 s &&& BitVec.ofInt 64 255).toNat : Int) = _
  exact bwrap_small (by omega) (by omega)
/-- The item that is made first. -/
theorem first0 : ∃ (s1 : Ar) (x : Int), (Ar.new 9).make ⟨4, 0, 0, 0, 0, 0, 0⟩ = (s1, x, 0) ∧ Gd s1 [x] ∧ s1.busy = 1 ∧ s1.made = 1 ∧ s1.n = 9 ∧ 1 ≤ x ∧ x ≤ 9 ∧ s1.u x.toNat = true ∧ s1.nd x.toNat = ⟨4, 0, 0, 0, 0, 0, 0⟩ := by
  rcases gd_make (gd_new (n := 9) (by decide) (by decide)) (x := ⟨4, 0, 0, 0, 0, 0, 0⟩) (by decide) (fun y hy => .inl (by simpa [Nd.kids] using hy)) with ⟨h, e, g, E, h1, h2, u, nd, b, m, _⟩ | ⟨_, h⟩
  · exact ⟨_, h, e, g, b, m, E.n, h1, h2, u, nd⟩
  · have : (0 : Int) = 9 := h
    omega
/-- It is no row. -/
theorem first : ∃ (s1 : Ar) (x : Int), (Ar.new 9).make ⟨4, 0, 0, 0, 0, 0, 0⟩ = (s1, x, 0) ∧ Gd s1 [0, x] ∧ Snd s1 ∧ WNode s1 [0, x] 8 x [] ⟨4, 0, 0, 0, 0, 0, 0⟩ ∧ WNode s1 [0, x] 8 0 [] Nd.zero := by
  obtain ⟨s1, h, e, g, b, m, n1, h1, h2, u, nd⟩ := first0
  have sn : Snd s1 := g.snd (by simp) (by omega)
  have c1 := g.pos (g.live h1 (by omega) List.mem_cons_self)
  have fr : FRow s1 [0, h] 0 [] := ⟨.nil, rfl, .inl (by simp), .inl rfl, rfl, Nat.zero_le _⟩
  have f0 : BFirm s1 [0, h] 0 := .inl (by simp)
  exact ⟨s1, h, e, g.zero, sn, ⟨fun ha => wrow_is (x := ⟨4, 0, 0, 0, 0, 0, 0⟩) (g := true) h (by rw [get_used h1 (by omega) u, nd]) rfl (fun _ => c1) ha sn.fit, fr, WRep.nil _ 8, WRep.nil _ 8, f0, f0⟩, ⟨fun ha => wrow_is (x := Nd.zero) (g := false) 0 (by unfold Ar.get; rw [if_pos (.inl (by decide))]) rfl (fun e => by cases e) ha sn.fit, fr, WRep.nil _ 8, WRep.nil _ 8, f0, f0⟩⟩
/-- What is told of a symbol, whatever it is. -/
theorem told {s1 : Ar} {x : Int} {nd : Nd} {K : Nat → Prop} {p : Nat} (sy : Int) (g : Gd s1 [0, x]) (sn : Snd s1) (N : WNode s1 [0, x] 8 x [] nd) :
    (∀ w, Ars w K p s1 → Calls Try.prog 13 #[.pointer (some ⟨p, 0, none⟩), .int .i64 x, .int .i64 sy, .int .i64 9] w fun e w' => e = .returned (.int .i64 0) ∧ Below w.heap.size w w') ∧
    (∀ w, Ars w K p s1 → Calls Try.prog 15 #[.pointer (some ⟨p, 0, none⟩), .int .i64 x, .int .i64 sy] w fun e w' => e = .returned (.int .i64 0) ∧ Below w.heap.size w w') ∧
    (∀ w, Ars w K p s1 → Calls Try.prog 14 #[.pointer (some ⟨p, 0, none⟩), .int .i64 x, .int .i64 sy, .int .i64 0] w fun e w' => e = .returned (.int .i64 (-1)) ∧ Below w.heap.size w w') := by
  by_cases c : sy < 0 ∨ 257 ≤ sy
  · refine ⟨fun w _ => (wrank_no c _ _ _ w).mono ?_, fun w ha => ?_, fun w ha => wselect_no (n := 0) c 0 (wlen_node g sn N ha)⟩
    · rintro e w' ⟨rfl, rfl⟩
      exact ⟨rfl, Below.refl _ _⟩
    · rcases c with c | c
      · refine (wbefore_neg sy c _ _ w).mono ?_
        rintro e w' ⟨rfl, rfl⟩
        exact ⟨rfl, Below.refl _ _⟩
      · exact wbefore_all sy c g sn N ha
  · obtain ⟨u, rfl⟩ := Int.eq_ofNat_of_zero_le (show 0 ≤ sy by omega)
    have hu : u < 257 := by omega
    refine ⟨fun w ha => ?_, fun w ha => ?_, fun w ha => ?_⟩
    · exact wrank_is (i := 9) (c := 0) g sn (by simp) N (by simp) hu (by decide) ha
    · exact wbefore_is g sn (by simp) N (by simp) hu ha
    · exact wselect_is (k := 0) g sn (by simp) N (by simp) hu ha
set_option maxRecDepth 100000 in
set_option maxHeartbeats 16000000 in
theorem walk (h : Int) (_w0 : (Lit.int .i64 h).wf = true) (i : Int) (_w1 : (Lit.int .i64 i).wf = true) (sy : Int) (_w2 : (Lit.int .i64 sy).wf = true) (w : World) :
    Calls Try.prog 6 #[.int .i64 h, .int .i64 i, .int .i64 sy] w fun e w' => e = .returned (.bool true) ∧ Below w.heap.size w w' := by
  have HA := Lib.hid alive9
  obtain ⟨s1, x, e1, g1, sn1, N1, N0⟩ := first
  obtain ⟨m, m5, hm⟩ := low_byte sy
  have mI : (m : Int) ≤ 255 := by omega
  have m0 : (0 : Int) ≤ (m : Int) := by omega
  have HX := Lib.hid (fun (p : Nat) => told (K := fun b => b < w.heap.size) (p := p) sy g1 sn1 N1)
  have HLx := Lib.hid (fun (p : Nat) W (ha : Ars W (fun b => b < w.heap.size) p s1) => show Calls Try.prog 20 #[.pointer (some ⟨p, 0, none⟩), .int .i64 x] W fun e w' => e = .returned (.int .i64 ((0 : Nat) : Int)) ∧ Below W.heap.size W w' from wlen_node g1 sn1 N1 ha)
  have HL0 := Lib.hid (fun (p : Nat) W (ha : Ars W (fun b => b < w.heap.size) p s1) => show Calls Try.prog 20 #[.pointer (some ⟨p, 0, none⟩), .int .i64 0] W fun e w' => e = .returned (.int .i64 ((0 : Nat) : Int)) ∧ Below W.heap.size W w' from wlen_node g1 sn1 N0 ha)
  have HGx := Lib.hid (fun (p : Nat) W (ha : Ars W (fun b => b < w.heap.size) p s1) => show Calls Try.prog 16 #[.pointer (some ⟨p, 0, none⟩), .int .i64 x, .int .i64 0] W fun e w' => e = .returned (.tuple #[.int .i64 0, .bool false]) ∧ Below W.heap.size W w' from wget_out g1 sn1 N1 (.inr (by simp)) ha)
  have HAll := Lib.hid (fun (p : Nat) W (ha : Ars W (fun b => b < w.heap.size) p s1) => wall_of (xs := []) (n := 0) rfl (Nat.zero_le _) (fun W ha => HLx.out p W ha) (fun W ha i hi => absurd hi (Nat.not_lt_zero i)) ha)
  have HDe := Lib.hid (fun (p : Nat) W (ha : Ars W (fun b => b < w.heap.size) p s1) => show Calls Try.prog 21 #[.pointer (some ⟨p, 0, none⟩), .int .i64 0, .int .i64 i] W fun o w' => o = .returned (.tuple #[.int .i64 0, .int .i64 3]) ∧ Below W.heap.size W w' from by
    rcases Int.lt_or_le i 0 with c | c
    · refine (wdelete_low c _ _ W).mono ?_
      rintro e w' ⟨rfl, rfl⟩
      exact ⟨rfl, Below.refl _ _⟩
    · exact wdelete_high (n := 0) c (Nat.zero_le _) (HL0.out p W ha))
  have HI1 := Lib.hid (fun (p : Nat) W (ha : Ars W (fun b => b < w.heap.size) p s1) => show Calls Try.prog 17 #[.pointer (some ⟨p, 0, none⟩), .int .i64 0, .int .i64 1, .int .i64 5] W fun o w' => o = .returned (.tuple #[.int .i64 0, .int .i64 3]) ∧ Below W.heap.size W w' from winsert_high (n := 0) (v := 5) (by omega) (by omega) (Nat.zero_le _) (HL0.out p W ha))
  have HI3 := fun (a b c : Value) W => Lib.hid (winsert_arg (v := 300 + (m : Int)) (.inr (by omega)) a b c W)
  have Sn := Lib.hid sn1
  have E1 := Lib.hid e1
  clear g1 sn1 N1 N0 e1 m5
  go_enter Try.func6, Try.ntmps6
  go_wp2_with fail
  refine (HA.out w).mono ?_
  rintro e w1 ⟨rfl, hb⟩
  have Hb := Lib.hid hb
  clear hb
  go_wp2_with fail
  refine (new_yes 9 _ (by decide) (by decide)).mono ?_
  rintro e w2 ⟨p, rfl, hb2, ha⟩
  have Ha := Lib.hid (ha (fun b => b < w.heap.size) (fun b hb => by have := Hb.out.size; omega))
  have B2 := Lib.hid (Hb.out.trans (hb2.mono Hb.out.size))
  clear Hb ha hb2
  go_wp2_with fail
  refine (make_is ⟨4, 0, 0, 0, 0, 0, 0⟩ E1.out Ha.out (B := 100000000000) (gd_new (n := 9) (by decide) (by decide) |>.snd (by simp) (by decide)) (by decide)).mono ?_
  rintro e w3 ⟨rfl, ha, hk⟩
  have A3 := Lib.hid ha
  have B3 := Lib.hid (B2.out.trans (hk.below_of B2.out.size))
  clear ha hk Ha B2
  go_wp2_with fail
  refine (HGx.out p _ A3.out).mono ?_
  rintro e w4 ⟨rfl, hk⟩
  have A4 := Lib.hid (A3.out.below hk)
  have B4 := Lib.hid (B3.out.trans (hk.mono B3.out.size))
  clear hk A3 B3
  go_wp2_with fail
  refine (HI3 _ _ _ _).out.mono ?_
  rintro e w5 ⟨rfl, rfl⟩
  go_wp2_with fail
  refine (wInsert_nil _).mono ?_
  rintro e w5 ⟨rfl, hk⟩
  have A5 := Lib.hid (A4.out.below hk)
  have B5 := Lib.hid (B4.out.trans (hk.mono B4.out.size))
  clear hk A4 B4
  go_wp2_with fail
  refine (HDe.out p _ A5.out).mono ?_
  rintro e w6 ⟨rfl, hk⟩
  have A6 := Lib.hid (A5.out.below hk)
  have B6 := Lib.hid (B5.out.trans (hk.mono B5.out.size))
  clear hk A5 B5
  go_wp2_with fail
  refine (HI1.out p _ A6.out).mono ?_
  rintro e w7 ⟨rfl, hk⟩
  have A7 := Lib.hid (A6.out.below hk)
  have B7 := Lib.hid (B6.out.trans (hk.mono B6.out.size))
  clear hk A6 B6
  go_wp2_with fail
  refine (HLx.out p _ A7.out).mono ?_
  rintro e w8 ⟨rfl, hk⟩
  have A8 := Lib.hid (A7.out.below hk)
  have B8 := Lib.hid (B7.out.trans (hk.mono B7.out.size))
  clear hk A7 B7
  go_wp2_with fail
  refine ((HX.out p).1 _ A8.out).mono ?_
  rintro e w9 ⟨rfl, hk⟩
  have A9 := Lib.hid (A8.out.below hk)
  have B9 := Lib.hid (B8.out.trans (hk.mono B8.out.size))
  clear hk A8 B8
  go_wp2_with fail
  refine ((HX.out p).2.1 _ A9.out).mono ?_
  rintro e w10 ⟨rfl, hk⟩
  have A10 := Lib.hid (A9.out.below hk)
  have B10 := Lib.hid (B9.out.trans (hk.mono B9.out.size))
  clear hk A9 B9
  go_wp2_with fail
  refine (HAll.out p _ A10.out).mono ?_
  rintro e w11 ⟨v11, K11, rfl, l11, _, hk⟩
  obtain ⟨a11, c11, rfl⟩ := l11.slice
  have A11 := Lib.hid (A10.out.below hk)
  have B11 := Lib.hid (B10.out.trans (hk.mono B10.out.size))
  have l0 : (zl []).length = 0 := rfl
  rw [l0]
  clear hk A10 B10 l11 l0
  go_wp2_with fail
  refine (wlen_nil h _).mono ?_
  rintro e w12 ⟨rfl, hk⟩
  have A12 := Lib.hid (A11.out.below hk)
  have B12 := Lib.hid (B11.out.trans (hk.mono B11.out.size))
  clear hk A11 B11
  go_wp2_with fail
  refine ((HX.out p).2.2 _ A12.out).mono ?_
  rintro e w13 ⟨rfl, hk⟩
  go_wp2_with fail
  go_ret
  exact ⟨rfl, B12.out.trans (hk.mono B12.out.size)⟩

set_option maxRecDepth 100000 in
theorem lifted (os : Os) (started : os.Started) (H : Type) (enc : TypeId × Value → H) :
    ReturnsInHanded {} Try.checked os 6 .any (Rows.waveNoneSpec.pre6 enc Try.prog Try.f6 Rows.waveNoneRow.domain false) (Rows.waveNoneSpec.post enc Try.prog Try.f6 false true false false) := by
  refine returnsInHanded_of_change (C := Try.checked) own_ started (by kernel_rfl) Try.func6
    (ChangeSpec.witness6 (enc := enc) (C := Try.checked) false ⟨#[], #[.int .i64 0, .int .i64 0, .int .i64 0], []⟩ 8 (by kernel_rfl) (by kernel_rfl) (by kernel_rfl) (by kernel_rfl)) ?_
  intro W base args ds gs before hval0 hW _ _
  have hval : ∀ (j : Nat) t v, Try.f6.params[j]? = some t → args[j]? = some v → Value.okWide Try.prog W .any base t v := hval0
  have hW' := hW
  obtain ⟨p, q, hA0, hV, rfl, hfz, hnd⟩ := hW
  have hA : DataW.TrodAll enc Try.prog W 0 (fun _ => true) true Try.f6.params.toList args.toList ds p := hA0
  rw [Try.params6] at hA hval
  obtain ⟨v0, vs0, d0, ds0, p0, q0, hargs, rfl, rfl, h0, r0⟩ := trodAll_cons hA
  obtain ⟨v1, vs1, d1, ds1, p1, q1, rfl, rfl, rfl, h1, r1⟩ := trodAll_cons r0
  obtain ⟨v2, vs2, d2, ds2, p2, q2, rfl, rfl, rfl, h2, r2⟩ := trodAll_cons r1
  obtain ⟨rfl, rfl, rfl⟩ := trodAll_nil r2
  obtain rfl : args = #[v0, v1, v2] := by cases args; simp_all
  obtain ⟨a0, rfl, rfl, rfl, w0⟩ := open_int Try.underlying3 (hval 0 3 v0 rfl rfl) h0
  obtain ⟨a1, rfl, rfl, rfl, w1⟩ := open_int Try.underlying3 (hval 1 3 v1 rfl rfl) h1
  obtain ⟨a2, rfl, rfl, rfl, w2⟩ := open_int Try.underlying3 (hval 2 3 v2 rfl rfl) h2
  clear hA0 hval0
  refine (walk a0 w0 a1 w1 a2 w2 W ).mono fun e W' ⟨he, hg⟩ => ?_
  subst he
  exact ⟨_, rfl, law_post laid_ (by kernel_rfl) rfl hW' hg rfl Try.underlying4 ⟨rfl, rfl, rfl⟩⟩

theorem over : Rows.waveNoneRow.holds Try.pinned (OpenSpec.ofChange Rows.waveNoneSpec) :=
  OpenClaim.holds_of_wide 6 Try.f6 rfl rfl rfl rfl rfl rfl rfl ⟨rfl, rfl, rfl, rfl, rfl⟩ rfl rfl rfl rfl rfl (by kernel_rfl) Try.func6 (by kernel_rfl)
    (of_decide_eq_true (by kernel_rfl)) (by unfold Func.isWrapper; first | (rw [if_pos (by decide +kernel)]; kernel_rfl) | (rw [if_neg (by decide +kernel)]; exact ⟨rfl, rfl⟩))
    (fun os started H enc _ => lifted os started H enc)

theorem proved : Rows.WaveNoneSaid :=
  over
#print axioms proved
end Go.Proofs.Ytdipgcbppggdhaa.waveNone
