/- BitsRanks holds: where the k-th 1, or 0, stands as many are ahead of it. No condition. -/
import Derived.Test.YtjfeocoengheaaaBw19
namespace Go.Proofs.Ytjfeocoengheaaa.bitsRanks
set_option maxRecDepth 100000
open Go.ChangeShapes Go.WideShapes Go.ChangeAt Go.RowKit
set_option maxRecDepth 100000 in
set_option maxHeartbeats 16000000 in
theorem walk (v : Value) (xs : List Bool) (one : Bool) (k : Int) (w2 : (Lit.int .i64 k).wf = true) (w : World) (hx : BoolsArg w v xs) :
    Calls Try.prog 3 #[v, .bool one, .int .i64 k] w fun e w' => e = .returned (.bool true) ∧ Below w.heap.size w w' := by
  have HA := Lib.hid alive8
  obtain ⟨av, cv, hv⟩ := hx.val
  obtain ⟨n, hn⟩ : ∃ n, n = xs.length := ⟨_, rfl⟩
  rw [← hn] at hv
  by_cases h300 : 300 < n
  · subst hv
    have h3 : (300 : Int) < (n : Int) := by omega
    clear hx hn h300
    go_enter Try.func3, Try.ntmps3
    go_wp2_with fail
    refine (HA.out w).mono ?_
    rintro e w1 ⟨rfl, hb⟩
    go_wp2_with fail
    go_ret
    exact ⟨rfl, hb⟩
  have HN := Lib.hid hn
  have HX := Lib.hid hx
  have Hn := Lib.hid (show n ≤ 300 by omega)
  have h3 : (n : Int) ≤ 300 := by omega
  obtain ⟨s1, q, W1, g1, r1, c1⟩ := build_arg (s := Ar.new 1000) hx (by omega) (gd_new (by decide) (by decide)) (by simp) (by decide) (by
    show (0 : Int) + _ < ((1000 : Nat) : Int)
    omega)
  have sn := g1.snd (by simp) (by rw [W1.md]; decide)
  have G1 := Lib.hid g1
  have R1 := Lib.hid r1
  have Sn := Lib.hid sn
  have C1 := Lib.hid c1
  clear W1 g1 r1 c1 sn hx hn
  subst hv
  go_enter Try.func3, Try.ntmps3
  go_wp2_with fail
  refine (HA.out w).mono ?_
  rintro e w1 ⟨rfl, hb⟩
  have Hb := Lib.hid hb
  clear hb
  go_wp2_with fail
  refine (new_yes 1000 _ (by decide) (by decide)).mono ?_
  rintro e w2 ⟨p, rfl, hb2, ha⟩
  have Ha := Lib.hid (ha (fun b => b < w.heap.size) (fun b hb => by have := Hb.out.size; omega))
  have Hb2 := Lib.hid (Hb.out.trans (hb2.mono Hb.out.size))
  clear Hb ha hb2
  go_wp2_with fail
  refine (C1.out p _ Ha.out Hb2.out).mono ?_
  rintro e w3 ⟨rfl, ha, hb⟩
  have A3 := Lib.hid ha
  have B3 := Lib.hid hb
  clear ha hb C1 Ha Hb2
  go_wp2_with fail
  refine (show Calls Try.prog 13 #[.pointer (some ⟨p, 0, none⟩), .int .i64 q] w3 fun r w' => r = .returned (.int .i64 n) ∧ Below w3.heap.size w3 w' from by rw [HN.out]; exact blen_row G1.out Sn.out R1.out A3.out).mono ?_
  rintro e w4 ⟨rfl, hb⟩
  have B4 := Lib.hid (B3.out.trans (hb.mono B3.out.size))
  have A4 := Lib.hid (A3.out.below hb)
  clear hb A3 B3
  go_wp2_with fail
  have hcell : ∀ i, i < n → ∃ b off, av = some ⟨b, off, none⟩ ∧ n ≤ cv ∧ w4.cell? ⟨b, off + i, none⟩ = some (.bool (xs.getD i false)) := fun i hi => by
    obtain ⟨b, off, c, e, hb, hc, _, h⟩ := HX.out.cell i (by have := HN.out; omega)
    injection e with e1 e2 e3
    subst e1 e3
    exact ⟨b, off, rfl, by rw [HN.out]; exact hc, (B4.out.cell (p := ⟨b, off + i, none⟩) hb).trans (h i (by have := HN.out; omega))⟩
  have Hc := Lib.hid hcell
  clear hcell
  go_loopw [10, 44] (fun c j W => ∃ i : Nat, j = .int .i64 (i : Int) ∧ i ≤ n ∧ c = .int .i64 ((xs.take i).count one : Nat) ∧ W = w4) (fun _ j _ => n - (intOf j).toNat)
  case atStart => exact ⟨0, rfl, by omega, rfl, rfl⟩
  case round =>
    obtain ⟨i, rfl, i1, rfl, rfl⟩ := hrel
    by_cases hi : i < n
    · obtain ⟨b, off, rfl, hcv, hce⟩ := Hc.out i hi
      have i2 : (i : Int) < (n : Int) := by omega
      have i3 : (0 : Int) ≤ (i : Int) := by omega
      have hle : (xs.take i).count one ≤ 300 := by
        have := List.count_le_length (a := one) (l := xs.take i)
        rw [List.length_take] at this
        have := Hn.out
        omega
      have hs : (xs.take (i + 1)).count one = (xs.take i).count one + if xs.getD i false = one then 1 else 0 := by
        have : i < xs.length := by have := HN.out; omega
        rw [List.take_add_one, List.count_append]
        congr 1
        simp [List.getD, this, List.count_cons]
      have Hs := Lib.hid hs
      clear hs
      generalize xs.getD i false = y at *
      obtain ⟨c, hc⟩ : ∃ c, (xs.take i).count one = c := ⟨_, rfl⟩
      rw [hc] at Hs hle ⊢
      clear hc
      have hleI : (c : Int) ≤ 300 := by omega
      by_cases hy : y = one
      · subst hy
        go_wp2_with fail
        go_roundw
        case rel => exact ⟨i + 1, by go_num, by omega, by rw [Hs.out, if_pos rfl]; go_num, by first | rfl | trivial⟩
        case measure => simp [intOf]; omega
      · have hyb : (y == one) = false := by simpa using hy
        go_wp2_with fail
        go_roundw
        case rel => exact ⟨i + 1, by go_num, by omega, by rw [Hs.out, if_neg hy]; go_num, by first | rfl | trivial⟩
        case measure => simp [intOf]; omega
    · obtain rfl : n = i := by omega
      have e1 : (xs.take n).count one = xs.count one := by rw [List.take_of_length_le (by rw [HN.out]; exact Nat.le_refl _)]
      rw [e1]
      clear e1
      have hcl : xs.count one ≤ 300 := by
        have := List.count_le_length (a := one) (l := xs)
        have := Hn.out
        have := HN.out
        omega
      have HCl := Lib.hid hcl
      by_cases hk : k < 0 ∨ (xs.count one : Int) ≤ k
      · have H := Lib.hid (bselect_out (one := one) G1.out Sn.out R1.out A4.out hk)
        generalize xs.count one = m at *
        clear hcl
        have hkw : k < 0 ∨ (0 ≤ k ∧ (m : Int) ≤ k) := by omega
        clear hk hi i1
        rcases hkw with hk | ⟨hk0, hk⟩
        all_goals
          go_wp2_with fail
          refine H.out.mono ?_
          rintro e w5 ⟨rfl, hb⟩
          go_wp2_with fail
          go_ret
          exact ⟨rfl, B4.out.trans (hb.mono B4.out.size)⟩
      · obtain ⟨k, rfl⟩ := Int.eq_ofNat_of_zero_le (show 0 ≤ k by omega)
        have hk' : k < xs.count one := by omega
        obtain ⟨z1, z2, z3⟩ := bsel_spec xs one k hk'
        have H := Lib.hid (bselect_row (i := k) (one := one) G1.out Sn.out R1.out A4.out hk')
        have zz : (xs.take (bsel xs one k)).count false + (xs.take (bsel xs one k)).count true = bsel xs one k := by
          rw [count_not, List.length_take]
          omega
        generalize hsl : bsel xs one k = at_ at *
        have H2 := Lib.hid (fun W (ha : Ars W (fun b => b < w.heap.size) p s1) => show Calls Try.prog 15 #[.pointer (some ⟨p, 0, none⟩), .int .i64 q, .int .i64 at_] W fun e w' => e = .returned (.tuple #[.bool one, .bool true]) ∧ Below W.heap.size W w' from by rw [← z2]; exact bget_row (i := at_) G1.out Sn.out R1.out ha z1)
        have H3 := Lib.hid (fun W (ha : Ars W (fun b => b < w.heap.size) p s1) => brank_row (i := at_) G1.out Sn.out R1.out ha (by omega))
        have a1 : (0 : Int) ≤ (at_ : Int) := by omega
        have a2 : (at_ : Int) ≤ 300 := by have := Hn.out; have := HN.out; omega
        have a3 : (0 : Int) ≤ (k : Int) := by omega
        have a4 : (k : Int) < (xs.count one : Int) := by omega
        generalize xs.count one = m at *
        clear hsl z1 z2 hk hk' hi i1 hcl
        cases one
        · have z4 : (at_ : Int) - ((xs.take at_).count true : Nat) = (k : Int) := by omega
          have z5 : wrap64 ((at_ : Int) - ((xs.take at_).count true : Nat)) = (k : Int) := by rw [z4]; exact IntWalk.wrap64_in _ (by have := HCl.out; omega)
          have z6 : IntKind.i64.wrap ((at_ : Int) - ((xs.take at_).count true : Nat)) = (k : Int) := by rw [z4]; exact IntWalk.i64_in _ (by have := HCl.out; omega)
          clear z3 zz z4
          generalize (xs.take at_).count true = cr at *
          go_wp2_with fail
          refine H.out.mono ?_
          rintro e w5 ⟨rfl, hb⟩
          have B5 := Lib.hid (B4.out.trans (hb.mono B4.out.size))
          have A5 := Lib.hid (A4.out.below hb)
          clear hb
          go_wp2_with fail
          refine (H2.out _ A5.out).mono ?_
          rintro e w6 ⟨rfl, hb⟩
          have B6 := Lib.hid (B5.out.trans (hb.mono B5.out.size))
          have A6 := Lib.hid (A5.out.below hb)
          clear hb
          go_wp2_with fail
          refine (H3.out _ A6.out).mono ?_
          rintro e w7 ⟨rfl, hb⟩
          go_wp2_with fail
          go_ret
          exact ⟨rfl, B6.out.trans (hb.mono B6.out.size)⟩
        · have z4 : (xs.take at_).count true = k := z3
          rw [z4] at H3
          clear z3 zz z4
          go_wp2_with fail
          refine H.out.mono ?_
          rintro e w5 ⟨rfl, hb⟩
          have B5 := Lib.hid (B4.out.trans (hb.mono B4.out.size))
          have A5 := Lib.hid (A4.out.below hb)
          clear hb
          go_wp2_with fail
          refine (H2.out _ A5.out).mono ?_
          rintro e w6 ⟨rfl, hb⟩
          have B6 := Lib.hid (B5.out.trans (hb.mono B5.out.size))
          have A6 := Lib.hid (A5.out.below hb)
          clear hb
          go_wp2_with fail
          refine (H3.out _ A6.out).mono ?_
          rintro e w7 ⟨rfl, hb⟩
          go_wp2_with fail
          go_ret
          exact ⟨rfl, B6.out.trans (hb.mono B6.out.size)⟩

set_option maxRecDepth 100000 in
theorem lifted (os : Os) (started : os.Started) (H : Type) (enc : TypeId × Value → H) :
    ReturnsInHanded {} Try.checked os 3 .any (Rows.bitsRanksSpec.pre6 enc Try.prog Try.f3 Rows.bitsRanksRow.domain false) (Rows.bitsRanksSpec.post enc Try.prog Try.f3 false true false false) := by
  refine returnsInHanded_of_change (C := Try.checked) own_ started (by kernel_rfl) Try.func3
    (ChangeSpec.witness6 (enc := enc) (C := Try.checked) false ⟨#[], #[.slice none 0 0, .bool false, .int .i64 0], []⟩ 8 (by kernel_rfl) (by kernel_rfl) (by kernel_rfl) (by kernel_rfl)) ?_
  intro W base args ds gs before hval0 hW _ _
  have hval : ∀ (j : Nat) t v, Try.f3.params[j]? = some t → args[j]? = some v → Value.okWide Try.prog W .any base t v := hval0
  have hW' := hW
  obtain ⟨p, q, hA0, hV, rfl, hfz, hnd⟩ := hW
  have hA : DataW.TrodAll enc Try.prog W 0 (fun _ => true) true Try.f3.params.toList args.toList ds p := hA0
  rw [Try.params3] at hA hval
  obtain ⟨v0, vs0, d0, ds0, p0, q0, hargs, rfl, rfl, h0, r0⟩ := trodAll_cons hA
  obtain ⟨v1, vs1, d1, ds1, p1, q1, rfl, rfl, rfl, h1, r1⟩ := trodAll_cons r0
  obtain ⟨v2, vs2, d2, ds2, p2, q2, rfl, rfl, rfl, h2, r2⟩ := trodAll_cons r1
  obtain ⟨rfl, rfl, rfl⟩ := trodAll_nil r2
  obtain rfl : args = #[v0, v1, v2] := by cases args; simp_all
  obtain ⟨x0, hx0⟩ := bools_arg (hval 0 22 v0 rfl rfl) h0
  obtain ⟨a1, rfl, rfl, rfl⟩ := open_bool Try.underlying4 (hval 1 4 v1 rfl rfl) h1
  obtain ⟨a2, rfl, rfl, rfl, w2⟩ := open_int Try.underlying3 (hval 2 3 v2 rfl rfl) h2
  clear hA0 hval0
  refine (walk v0 x0 a1 a2 w2 W hx0).mono fun e W' ⟨he, hg⟩ => ?_
  subst he
  exact ⟨_, rfl, law_post laid_ (by kernel_rfl) rfl hW' hg rfl Try.underlying4 ⟨rfl, rfl, rfl⟩⟩

theorem over : Rows.bitsRanksRow.holds Try.pinned (OpenSpec.ofChange Rows.bitsRanksSpec) :=
  OpenClaim.holds_of_wide 3 Try.f3 rfl rfl rfl rfl rfl rfl rfl ⟨rfl, rfl, rfl, rfl, rfl⟩ rfl rfl rfl rfl rfl (by kernel_rfl) Try.func3 (by kernel_rfl)
    (of_decide_eq_true (by kernel_rfl)) (by unfold Func.isWrapper; first | (rw [if_pos (by decide +kernel)]; kernel_rfl) | (rw [if_neg (by decide +kernel)]; exact ⟨rfl, rfl⟩))
    (fun os started H enc _ => lifted os started H enc)

theorem proved : Rows.BitsRanksSaid :=
  over
#print axioms proved
end Go.Proofs.Ytjfeocoengheaaa.bitsRanks
