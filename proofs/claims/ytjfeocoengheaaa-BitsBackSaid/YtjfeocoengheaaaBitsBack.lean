/- BitsBack holds: a bit that is put in, and taken out again, leaves a row as it was; the rows in between stay as they are. No condition. -/
import Derived.Test.YtjfeocoengheaaaBw23
import Derived.Test.YtjfeocoengheaaaGpF
namespace Go.Proofs.Ytjfeocoengheaaa.bitsBack
set_option maxRecDepth 100000
open Go.ChangeShapes Go.WideShapes Go.ChangeAt Go.RowKit
theorem pick (i m : Int) (h1 : 1 ≤ m) (h2 : m ≤ 1000) : IntKind.i64.wrap (i.tmod m) = i.tmod m ∧ IntKind.i64.wrap (i.tmod m + (m - 1)) = i.tmod m + (m - 1) ∧ IntKind.i64.wrap (i.tmod m + (m - 1) + 1) = i.tmod m + (m - 1) + 1 ∧ ∃ k : Nat, (i.tmod m + (m - 1) + 1).tmod m = (k : Int) ∧ (k : Int) < m := by
  have a1 : i.tmod m < m := Int.tmod_lt_of_pos i (by omega)
  have a2 : -m < i.tmod m := by
    have := Int.lt_tmod_of_pos i (show 0 < m by omega)
    omega
  have a3 : 0 ≤ (i.tmod m + (m - 1) + 1) % m := Int.emod_nonneg _ (by omega)
  have a4 : (i.tmod m + (m - 1) + 1) % m < m := Int.emod_lt_of_pos _ (by omega)
  obtain ⟨k, hk⟩ := Int.eq_ofNat_of_zero_le a3
  refine ⟨bwrap_small (by omega) (by omega), bwrap_small (by omega) (by omega), bwrap_small (by omega) (by omega), k, ?_, by omega⟩
  rw [Int.tmod_eq_emod_of_nonneg (by omega)]
  exact hk
theorem del_ins {l : List Bool} {k : Nat} (hk : k ≤ l.length) (y : Bool) : bDel (bIns l k y) k = l := by
  have e : (l.take k).length = k := by rw [List.length_take]; omega
  unfold bDel bIns
  have h1 : (l.take k ++ y :: l.drop k).take k = l.take k := List.take_left' e
  have h2 : (l.take k ++ y :: l.drop k).drop (k + 1) = l.drop k := by
    rw [List.drop_append, e, List.drop_eq_nil_of_le (by rw [e]; omega), show k + 1 - k = 1 by omega]
    rfl
  rw [h1, h2, List.take_append_drop]
theorem ins_get {l : List Bool} {k : Nat} (hk : k ≤ l.length) (y : Bool) : (bIns l k y).getD k false = y := by
  have e : (l.take k).length = k := by rw [List.length_take]; omega
  unfold bIns
  rw [List.getD_eq_getElem?_getD, List.getElem?_append_right (by omega), e, Nat.sub_self]
  rfl
set_option maxRecDepth 100000 in
set_option maxHeartbeats 16000000 in
theorem walk (v : Value) (xs : List Bool) (i : Int) (_w2 : (Lit.int .i64 i).wf = true) (one : Bool) (w : World) (hx : BoolsArg w v xs) :
    Calls Try.prog 4 #[v, .int .i64 i, .bool one] w fun e w' => e = .returned (.bool true) ∧ Below w.heap.size w w' := by
  have HA := Lib.hid alive8
  obtain ⟨av, cv, hv⟩ := hx.val
  obtain ⟨n, hn⟩ : ∃ n, n = xs.length := ⟨_, rfl⟩
  rw [← hn] at hv
  by_cases h300 : 300 < n
  · subst hv
    have h3 : (300 : Int) < (n : Int) := by omega
    clear hx hn h300
    go_enter Try.func4, Try.ntmps4
    go_wp2_with fail
    refine (HA.out w).mono ?_
    rintro e w1 ⟨rfl, hb⟩
    go_wp2_with fail
    go_ret
    exact ⟨rfl, hb⟩
  have HN := Lib.hid hn
  have Hn := Lib.hid (show n ≤ 300 by omega)
  have h3 : (n : Int) ≤ 300 := by omega
  obtain ⟨p1, p2, p3, k, p4, p5⟩ := pick i ((n : Int) + 1) (by omega) (by omega)
  rw [show (n : Int) + 1 - 1 = (n : Int) by omega] at p2 p3 p4
  have hk : k ≤ xs.length := by omega
  obtain ⟨s1, q, W1, g1, r1, c1⟩ := build_arg (s := Ar.new 1500) hx (by omega) (gd_new (by decide) (by decide)) (by simp) (by decide) (by
    show (0 : Int) + _ < ((1500 : Nat) : Int)
    omega)
  have m1 := W1.md
  have m0 : (Ar.new 1500).made - (Ar.new 1500).busy = 0 := rfl
  have n1 := W1.ext.n
  have n0 : (Ar.new 1500).n = 1500 := rfl
  have b0 : (Ar.new 1500).busy = 0 := rfl
  obtain ⟨k1, d1, d2, d3⟩ := W1.made
  obtain ⟨s2, q2, W2, g2, r2, c2⟩ := bInsert_yes (one := one) (i := k) g1 r1 hk (by omega) (by simp) (by omega) (by omega)
  have m2 := W2.md
  have n2 := W2.ext.n
  obtain ⟨k2, e1, e2, e3⟩ := W2.made
  have hl2 : (bIns xs k one).length = n + 1 := by rw [bIns_len hk, hn]
  obtain ⟨s3, q3, W3, g3, r3, c3⟩ := bDelete_yes (i := k) g2 r2 (by omega) (by simp) (by omega) (by rw [hl2]; omega)
  have m3 := W3.md
  rw [del_ins hk] at r3
  have sn := g3.snd (by simp) (by omega)
  have r1' := Lib.hid ((r1.ext W2.ext (L' := q2 :: [q]) (fun x hx => List.mem_cons_of_mem _ hx)).ext W3.ext (L' := q3 :: q2 :: [q]) (fun x hx => List.mem_cons_of_mem _ hx))
  have r2' := Lib.hid (r2.ext W3.ext (L' := q3 :: q2 :: [q]) (fun x hx => List.mem_cons_of_mem _ hx))
  have R3 := Lib.hid r3
  have G3 := Lib.hid g3
  have Sn := Lib.hid sn
  have C1 := Lib.hid c1
  have C2 := Lib.hid (fun (p : Nat) (w' : World) (a : Ars w' (fun b => b < w.heap.size) p s1) => c2 a)
  have C3 := Lib.hid (fun (p : Nat) (w' : World) (a : Ars w' (fun b => b < w.heap.size) p s2) => c3 a)
  have Hg := Lib.hid (ins_get hk one)
  have Hl := Lib.hid hl2
  have Hb0 := Lib.hid hx.bools
  have hz : Hid ((q3 == 0) = ((n : Int) == 0)) := by
    show (q3 == 0) = ((n : Int) == 0)
    have h1 := r3.nil_iff
    by_cases c : q3 = 0
    · have h2 := h1.1 c
      have h3 : n = 0 := by rw [hn, h2]; rfl
      simp [c, h3]
    · have h2 : ¬ n = 0 := fun e => c (h1.2 (List.length_eq_zero_iff.1 (by omega)))
      have e1 : (q3 == 0) = false := by simpa using c
      have e2 : ((n : Int) == 0) = false := beq_eq_false_iff_ne.2 (by omega)
      rw [e1, e2]
  have hkn : (k : Int) ≤ (n : Int) := by omega
  clear W1 g1 r1 c1 m1 m0 n1 n0 b0 k1 d1 d2 d3 W2 g2 r2 c2 m2 n2 k2 e1 e2 e3 W3 g3 r3 c3 m3 sn hk hl2 hx hn p5 h300
  subst hv
  go_enter Try.func4, Try.ntmps4
  go_wp2_with fail
  refine (HA.out w).mono ?_
  rintro e w1 ⟨rfl, hb⟩
  have Hb := Lib.hid hb
  clear hb
  go_wp2_with fail
  refine (new_yes 1500 _ (by decide) (by decide)).mono ?_
  rintro e w2 ⟨p, rfl, hb2, ha⟩
  have Ha := Lib.hid (ha (fun b => b < w.heap.size) (fun b hb => by have := Hb.out.size; omega))
  have Hb2 := Lib.hid (Hb.out.trans (hb2.mono Hb.out.size))
  clear Hb ha hb2
  go_wp2_with fail
  refine (C1.out p _ Ha.out Hb2.out).mono ?_
  rintro e w3 ⟨rfl, ha, hb⟩
  have A3 := Lib.hid ha
  have B3 := Lib.hid hb
  clear ha hb C1 Ha Hb2
  go_wp2_with fail
  refine (C2.out p _ A3.out).mono ?_
  rintro e w4 ⟨rfl, ha, hk⟩
  have A4 := Lib.hid ha
  have B4 := Lib.hid (B3.out.trans (hk.below_of B3.out.size))
  clear ha hk C2 A3 B3
  go_wp2_with fail
  refine (C3.out p _ A4.out).mono ?_
  rintro e w5 ⟨rfl, ha, hk⟩
  have A5 := Lib.hid ha
  have B5 := Lib.hid (B4.out.trans (hk.below_of B4.out.size))
  clear ha hk C3 A4 B4
  go_wp2_with fail
  refine (show Calls Try.prog 15 #[.pointer (some ⟨p, 0, none⟩), .int .i64 q2, .int .i64 k] w5 fun e w' => e = .returned (.tuple #[.bool one, .bool true]) ∧ Below w5.heap.size w5 w' from by rw [← Hg.out]; exact bget_row (i := k) G3.out Sn.out r2'.out A5.out (by rw [Hl.out]; omega)).mono ?_
  rintro e w6 ⟨rfl, b6⟩
  have B6 := Lib.hid (B5.out.trans (b6.mono B5.out.size))
  have A6 := Lib.hid (A5.out.below b6)
  clear b6 B5 A5
  go_wp2_with fail
  refine (show Calls Try.prog 13 #[.pointer (some ⟨p, 0, none⟩), .int .i64 q2] w6 fun e w' => e = .returned (.int .i64 ((n : Int) + 1)) ∧ Below w6.heap.size w6 w' from by have := blen_row G3.out Sn.out r2'.out A6.out; rw [Hl.out] at this; exact this).mono ?_
  rintro e w7 ⟨rfl, b7⟩
  have B7 := Lib.hid (B6.out.trans (b7.mono B6.out.size))
  have A7 := Lib.hid (A6.out.below b7)
  clear b7 B6 A6
  go_wp2_with fail
  refine (ball_is G3.out Sn.out R3.out (by have := HN.out; have := Hn.out; omega) A7.out).mono ?_
  rintro e w8 ⟨v8, K8, rfl, l8, _, b8⟩
  have B8 := Lib.hid (B7.out.trans (b8.mono B7.out.size))
  have A8 := Lib.hid (A7.out.below b8)
  have L8 := Lib.hid l8.bools
  clear b8 l8 B7 A7
  go_wp2_with fail
  refine (same_bools_is (xs := xs) L8.out (Hb0.out.below B8.out) (by have := HN.out; have := Hn.out; omega)).mono ?_
  rintro e w9 ⟨rfl, b9⟩
  have B9 := Lib.hid (B8.out.trans (b9.mono B8.out.size))
  have A9 := Lib.hid (A8.out.below b9)
  clear b9 B8 A8
  go_wp2_with fail
  refine (ball_is G3.out Sn.out r1'.out (by have := HN.out; have := Hn.out; omega) A9.out).mono ?_
  rintro e w10 ⟨v10, K10, rfl, l10, _, b10⟩
  have B10 := Lib.hid (B9.out.trans (b10.mono B9.out.size))
  have L10 := Lib.hid l10.bools
  clear b10 l10 B9 A9
  go_wp2_with fail
  refine (same_bools_is (xs := xs) L10.out (Hb0.out.below B10.out) (by have := HN.out; have := Hn.out; omega)).mono ?_
  rintro e w11 ⟨rfl, b11⟩
  have B11 := Lib.hid (B10.out.trans (b11.mono B10.out.size))
  clear b11 B10
  go_wp2_with fail
  go_ret
  exact ⟨by rw [hz.out]; simp, B11.out⟩

set_option maxRecDepth 100000 in
theorem lifted (os : Os) (started : os.Started) (H : Type) (enc : TypeId × Value → H) :
    ReturnsInHanded {} Try.checked os 4 .any (Rows.bitsBackSpec.pre6 enc Try.prog Try.f4 Rows.bitsBackRow.domain false) (Rows.bitsBackSpec.post enc Try.prog Try.f4 false true false false) := by
  refine returnsInHanded_of_change (C := Try.checked) own_ started (by kernel_rfl) Try.func4
    (ChangeSpec.witness6 (enc := enc) (C := Try.checked) false ⟨#[], #[.slice none 0 0, .int .i64 0, .bool false], []⟩ 8 (by kernel_rfl) (by kernel_rfl) (by kernel_rfl) (by kernel_rfl)) ?_
  intro W base args ds gs before hval0 hW _ _
  have hval : ∀ (j : Nat) t v, Try.f4.params[j]? = some t → args[j]? = some v → Value.okWide Try.prog W .any base t v := hval0
  have hW' := hW
  obtain ⟨p, q, hA0, hV, rfl, hfz, hnd⟩ := hW
  have hA : DataW.TrodAll enc Try.prog W 0 (fun _ => true) true Try.f4.params.toList args.toList ds p := hA0
  rw [Try.params4] at hA hval
  obtain ⟨v0, vs0, d0, ds0, p0, q0, hargs, rfl, rfl, h0, r0⟩ := trodAll_cons hA
  obtain ⟨v1, vs1, d1, ds1, p1, q1, rfl, rfl, rfl, h1, r1⟩ := trodAll_cons r0
  obtain ⟨v2, vs2, d2, ds2, p2, q2, rfl, rfl, rfl, h2, r2⟩ := trodAll_cons r1
  obtain ⟨rfl, rfl, rfl⟩ := trodAll_nil r2
  obtain rfl : args = #[v0, v1, v2] := by cases args; simp_all
  obtain ⟨x0, hx0⟩ := bools_arg (hval 0 22 v0 rfl rfl) h0
  obtain ⟨a1, rfl, rfl, rfl, w1⟩ := open_int Try.underlying3 (hval 1 3 v1 rfl rfl) h1
  obtain ⟨a2, rfl, rfl, rfl⟩ := open_bool Try.underlying4 (hval 2 4 v2 rfl rfl) h2
  clear hA0 hval0
  refine (walk v0 x0 a1 w1 a2 W hx0).mono fun e W' ⟨he, hg⟩ => ?_
  subst he
  exact ⟨_, rfl, law_post laid_ (by kernel_rfl) rfl hW' hg rfl Try.underlying4 ⟨rfl, rfl, rfl⟩⟩

theorem over : Rows.bitsBackRow.holds Try.pinned (OpenSpec.ofChange Rows.bitsBackSpec) :=
  OpenClaim.holds_of_wide 4 Try.f4 rfl rfl rfl rfl rfl rfl rfl ⟨rfl, rfl, rfl, rfl, rfl⟩ rfl rfl rfl rfl rfl (by kernel_rfl) Try.func4 (by kernel_rfl)
    (of_decide_eq_true (by kernel_rfl)) (by unfold Func.isWrapper; first | (rw [if_pos (by decide +kernel)]; kernel_rfl) | (rw [if_neg (by decide +kernel)]; exact ⟨rfl, rfl⟩))
    (fun os started H enc _ => lifted os started H enc)

theorem proved : Rows.BitsBackSaid :=
  over
#print axioms proved
end Go.Proofs.Ytjfeocoengheaaa.bitsBack
