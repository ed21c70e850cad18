/- BitsMany holds: rows made of one another, one bit more each time, all stay as they are; together they take little more than their changes. No condition. -/
import Derived.Test.YtjfeocoengheaaaGpG
import Derived.Test.YtjfeocoengheaaaGpR
import Derived.Test.YtjfeocoengheaaaLaw
namespace Go.Proofs.Ytjfeocoengheaaa.bitsMany
set_option maxRecDepth 100000
open Go.ChangeShapes Go.WideShapes Go.ChangeAt Go.RowKit
/-- The rows, beside the arena. -/
structure Mw (w : World) (p N j : Nat) (K Kl : Nat → Prop) (rs : List Int) (s : Ar) (L : List Int) (v : Value) (W : World) : Prop where
  ars : Ars W K p s
  lst : Lst W w.heap.size Kl v rs
  sub : ∀ x, Kl x → K x
  kK : ∀ x, x < w.heap.size → K x
  bel : Below w.heap.size w W
  gd : Gd s L
  len : rs.length = j + 1
  lL : L.length ≤ j
  rows : ∀ i, i ≤ j → ∃ xs, Row s L (rs.getD i 0) xs ∧ xs.length = i
  n : s.n = 3000
  mb : s.made = s.busy
  cost : s.made ≤ (j * (3 * hi N + 1) : Nat)
section
variable {w W W' : World} {p N j : Nat} {K Kl : Nat → Prop} {rs L : List Int} {s : Ar} {v : Value}
theorem Mw.below (h : Mw w p N j K Kl rs s L v W) (hb : Below W.heap.size W W') : Mw w p N j K Kl rs s L v W' :=
  ⟨h.ars.below hb, h.lst.kept (Kept.of_below hb Kl), h.sub, h.kK, h.bel.trans (hb.mono h.bel.size), h.gd, h.len, h.lL, h.rows, h.n, h.mb, h.cost⟩
theorem Mw.snd (h : Mw w p N j K Kl rs s L v W) (hj : j ≤ 80) : Snd s := h.gd.snd (by have := h.lL; omega) (by have := h.mb; omega)
theorem hi_small {N : Nat} (hN : N ≤ 80) : hi N ≤ 4 := by
  unfold hi
  repeat' split
  all_goals omega
theorem Mw.next (h : Mw w p N j K Kl rs s L v W) (hN : N ≤ 80) (hj : j < N) (one : Bool) : ∃ s' q, (∀ W, Ars W K p s → Calls Try.prog 17 #[.pointer (some ⟨p, 0, none⟩), .int .i64 (rs.getD j 0), .int .i64 ((j / 2 : Nat) : Int), .bool one] W fun o w' => o = .returned (.tuple #[.int .i64 q, .int .i64 0]) ∧ Ars w' K p s' ∧ Kept K W w') ∧
    ∀ (W0 W1 : World), Mw w p N j K Kl rs s L v W0 → Ars W1 K p s' → Kept K W0 W1 → ∀ o : Obj,
    Lst (W1.alloc o) w.heap.size Kl v rs ∧ (∀ x, Kl x → x < (W1.alloc o).heap.size) ∧ w.heap.size ≤ (W1.alloc o).heap.size ∧
    ∀ W3 Kl' v', Pushed (W1.alloc o) W3 w.heap.size Kl Kl' v' (rs ++ [q]) → Mw w p N (j + 1) (fun x => K x ∨ Kl' x) Kl' (rs ++ [q]) s' (q :: L) v' W3 := by
  obtain ⟨xs, hr, hx⟩ := h.rows j (Nat.le_refl _)
  have hs := hi_small hN
  have hm := hi_mono (show xs.length ≤ N by omega)
  have hmk := h.cost
  have hmb := h.mb
  have hn := h.n
  have e1 : j * (3 * hi N + 1) ≤ 80 * 13 := Nat.mul_le_mul (by omega) (by omega)
  obtain ⟨s', q, W', g', r', c⟩ := bInsert_sure (one := one) (i := j / 2) h.gd hr (by omega) (by omega) (by have := h.lL; omega) (by omega) (by omega)
  obtain ⟨k, k1, k2, k3⟩ := W'.made
  have n' := W'.ext.n
  refine ⟨s', q, fun W ha => c ha, fun W0 W1 h0 ha hk o => ?_⟩
  have hl1 : Lst W1 w.heap.size Kl v rs := h0.lst.kept (hk.mono fun x _ hx => h0.sub x hx)
  have hl3 : Lst (W1.alloc o) w.heap.size Kl v rs := hl1.kept ((Kept.refl Kl W1).alloc o)
  have hlt : ∀ x, Kl x → x < (W1.alloc o).heap.size := fun x hx => by have := ha.lt x (h0.sub x hx); simp; omega
  have bel1 : Below w.heap.size w W1 := h0.bel.trans ((hk.mono fun x _ hx => h0.kK x hx).below_of h0.bel.size)
  have bel3 := bel1.alloc bel1.size o
  refine ⟨hl3, hlt, bel3.size, fun W3 Kl' v' hp => ?_⟩
  refine ⟨(ha.alloc o).step hp.size (fun x hx hnk => hp.same x hx fun hh => hnk (h0.sub x hh)) (fun x hx => ?_), hp.lst, fun x hx => .inr hx, fun x hx => .inl (h0.kK x hx), bel3.trans hp.below, g', by rw [List.length_append, h.len]; rfl, by have := h.lL; simp; omega, fun i hi' => ?_, by omega, by omega, ?_⟩
  · rcases hx with hx | hx
    · exact ⟨Nat.lt_of_lt_of_le ((ha.alloc o).lt x hx) hp.size, .inl hx⟩
    · obtain ⟨a, c⟩ := hp.new x hx
      exact ⟨a, c.imp (h0.sub x) id⟩
  · by_cases e : i ≤ j
    · obtain ⟨ys, a, b⟩ := h.rows i e
      refine ⟨ys, ?_, b⟩
      have : (rs ++ [q]).getD i 0 = rs.getD i 0 := by
        rw [List.getD_eq_getElem?_getD, List.getElem?_append_left (by rw [h.len]; omega), ← List.getD_eq_getElem?_getD]
      rw [this]
      exact a.ext W'.ext fun x hx => List.mem_cons_of_mem _ hx
    · obtain rfl : i = j + 1 := by omega
      refine ⟨bIns xs (j / 2) one, ?_, (bIns_len (by omega)).trans (by omega)⟩
      have : (rs ++ [q]).getD (j + 1) 0 = q := by
        rw [List.getD_eq_getElem?_getD, List.getElem?_append_right (by rw [h.len]; omega), h.len, Nat.sub_self]
        rfl
      rw [this]
      exact r'
  · have : (j + 1) * (3 * hi N + 1) = j * (3 * hi N + 1) + (3 * hi N + 1) := by rw [Nat.add_mul, Nat.one_mul]
    omega
end
theorem prod_small {N : Nat} {md : Int} (hN : N ≤ 80) (hc : md ≤ (N * (3 * hi N + 1) : Nat)) : ∃ (X : Nat) (P : Int), X = 4 + 4 * bl (N / 16) ∧ wrap64 ((N : Int) * (X : Int)) = P ∧ md ≤ P := by
  have h1 := hi_made (n := N) (by omega)
  have h2 := bl_small (m := N / 16) (by omega)
  obtain ⟨Y, hY⟩ : ∃ Y, Y = 4 + 4 * bl (N / 16) := ⟨_, rfl⟩
  have h3 := hi_made (n := N) (by omega)
  rw [← hY] at h3
  have h4 : Y ≤ 44 := by omega
  have h5 : N * (3 * hi N + 1) ≤ N * Y := Nat.mul_le_mul_left _ h3
  have h6 : N * Y ≤ 80 * 44 := Nat.mul_le_mul hN h4
  have h7 : (N : Int) * (Y : Int) = ((N * Y : Nat) : Int) := (Int.natCast_mul N Y).symm
  refine ⟨Y, ((N * Y : Nat) : Int), hY, ?_, ?_⟩
  · rw [h7]
    generalize N * Y = Z at h6
    exact IntWalk.wrap64_in _ (by omega)
  · generalize N * Y = Z at h5
    generalize N * (3 * hi N + 1) = Q at h5 hc
    omega
set_option maxRecDepth 100000 in
set_option maxHeartbeats 16000000 in
theorem walk (n : Int) (_w0 : (Lit.int .i64 n).wf = true) (one : Bool) (w : World) :
    Calls Try.prog 6 #[.int .i64 n, .bool one] w fun e w' => e = .returned (.bool true) ∧ Below w.heap.size w w' := by
  have HA := Lib.hid alive8
  by_cases h1 : n < 0
  · have h1' : decide (n < 0) = true := decide_eq_true h1
    go_enter Try.func6, Try.ntmps6
    go_wp2_with fail
    refine (HA.out w).mono ?_
    rintro e w1 ⟨rfl, hb⟩
    go_wp2_with fail
    go_ret
    exact ⟨rfl, hb⟩
  by_cases h2 : 80 < n
  · have h2' : decide (80 < n) = true := decide_eq_true h2
    go_enter Try.func6, Try.ntmps6
    go_wp2_with fail
    refine (HA.out w).mono ?_
    rintro e w1 ⟨rfl, hb⟩
    go_wp2_with fail
    go_ret
    exact ⟨rfl, hb⟩
  obtain ⟨N, rfl⟩ := Int.eq_ofNat_of_zero_le (show 0 ≤ n by omega)
  have hN : N ≤ 80 := by omega
  have HN := Lib.hid hN
  go_enter Try.func6, Try.ntmps6
  go_wp2_with fail
  refine (HA.out w).mono ?_
  rintro e w1 ⟨rfl, hb⟩
  have Hb := Lib.hid hb
  clear hb
  go_wp2_with fail
  refine (new_yes 3000 _ (by decide) (by decide)).mono ?_
  rintro e w2 ⟨p, rfl, hb2, ha⟩
  have hd0 : Mw w p N 0 (fun b => b < w.heap.size ∨ b = w2.heap.size) (fun b => b < w.heap.size ∨ b = w2.heap.size) [0] (Ar.new 3000) [] (.slice (some ⟨w2.heap.size, 0, none⟩) 1 1) (w2.alloc (.cells #[.int .i64 0] 3)) :=
    ⟨(ha (fun b => b < w.heap.size) (fun b h => by have := Hb.out.size; omega)).allocK _, Lst.one 0 (Nat.le_trans Hb.out.size hb2.size), fun x h => h, fun x h => .inl h, (Hb.out.trans (hb2.mono Hb.out.size)).alloc (Nat.le_trans Hb.out.size hb2.size) _, gd_new (by decide) (by decide), rfl, Nat.le_refl _, fun i hi' => by
      obtain rfl : i = 0 := by omega
      exact ⟨[], Row.zero _ _, rfl⟩, rfl, rfl, by show (0 : Int) ≤ _; omega⟩
  have D0 := Lib.hid hd0
  clear Hb hb2 ha hd0 h1 h2 hN
  go_wp2_with fail
  go_loopw [6, 7] (fun v k W => ∃ (j : Nat) (K Kl : Nat → Prop) (rs : List Int) (s : Ar) (L : List Int), k = .int .i64 (j : Int) ∧ j ≤ N ∧ Mw w p N j K Kl rs s L v W) (fun _ k _ => N - (intOf k).toNat)
  case atStart => exact ⟨0, _, _, _, _, _, rfl, by omega, D0.out⟩
  case round =>
    obtain ⟨j, K, Kl, rs, s, L, rfl, j1, hd⟩ := hrel
    have D := Lib.hid hd
    clear hd D0
    have hjI : (j : Int) ≤ 80 := by have := HN.out; omega
    have hlen := D.out.len
    obtain ⟨g, c2, hv, hc2, hKg, hcl⟩ := D.out.lst.at_ (i := j) (by rw [hlen]; omega)
    have cg := hcl j (by rw [hlen]; omega)
    rw [hlen] at hv hc2
    subst hv
    clear hcl hKg hlen
    by_cases hj : j < N
    · have hjj : (j : Int) < (N : Int) := by omega
      obtain ⟨s', q, hc, hp⟩ := D.out.next HN.out hj (!(one == ((j : Int) % 3 == 0)))
      have HC := Lib.hid (show Calls Try.prog 17 #[.pointer (some ⟨p, 0, none⟩), .int .i64 (rs.getD j 0), .int .i64 ((j : Int) / 2), .bool (!(one == ((j : Int) % 3 == 0)))] wr fun o w' => o = .returned (.tuple #[.int .i64 q, .int .i64 0]) ∧ Ars w' K p s' ∧ Kept K wr w' from hc _ D.out.ars)
      have HP := Lib.hid hp
      have HLn := Lib.hid (show rs.length + 1 ≤ 1000000000 by have := D.out.len; have := HN.out; omega)
      clear hc hp
      generalize rs.getD j 0 = r at *
      go_wp2_with fail
      refine HC.out.mono ?_
      rintro e w3 ⟨rfl, ha, hk⟩
      obtain ⟨q1, q2, q3, q4⟩ := HP.out _ _ D.out ha hk (.cells #[.int .i64 q] 3)
      have Q1 := Lib.hid q1
      have Q2 := Lib.hid q2
      have Q3 := Lib.hid q3
      have Q4 := Lib.hid q4
      clear q1 q2 q3 q4 ha hk HP HC
      go_wp2_with (at_builtin; refine wpList_append_lst Q1.out Q2.out Q3.out HLn.out rfl (.tmp 48) (.tmp 50) rfl rfl ⟨w3.heap.size, 0, none⟩ q 1 rfl (cell_new rfl rfl) ?_)
      intro v' w7 K2 hp
      have HPp := Lib.hid hp
      clear hp
      go_wp2_with fail
      go_roundw
      case rel => exact ⟨j + 1, _, _, _, _, _, by go_num, by omega, Q4.out _ _ _ HPp.out⟩
      case measure => simp [intOf]; omega
    · obtain rfl : N = j := by omega
      clear cg j1 hj
      have HL := Lib.hid (show (N : Int) + 1 = ((N + 1 : Nat) : Int) by omega)
      have hsn := Lib.hid (D.out.snd HN.out)
      have cg := Lib.hid (fun (i : Nat) (hi' : i ≤ N) => lst_cell D.out.lst (j := i) (by rw [D.out.len]; omega))
      go_wp2_with fail
      clear cg
      obtain ⟨wz, rfl⟩ : ∃ wz : World, wz = wr := ⟨_, rfl⟩
      go_loopw [54] (fun k W => ∃ i : Nat, k = .int .i64 (i : Int) ∧ i ≤ N + 1 ∧ Below wz.heap.size wz W) (fun k _ => N + 1 - (intOf k).toNat)
      case atStart => exact ⟨0, rfl, by omega, Below.refl _ _⟩
      case round =>
        obtain ⟨i, rfl, i1, hb⟩ := hrel
        have D2 := Lib.hid (D.out.below hb)
        have HB := Lib.hid hb
        clear hb
        by_cases hi2 : i < N + 1
        · have ci := lst_cell D2.out.lst (j := i) (by rw [D2.out.len]; exact hi2)
          obtain ⟨xs, hr, hxl⟩ := D.out.rows i (by omega)
          have HC := Lib.hid (show Calls Try.prog 13 #[.pointer (some ⟨p, 0, none⟩), .int .i64 (rs.getD i 0)] wr fun r w' => r = .returned (.int .i64 i) ∧ Below wr.heap.size wr w' from by have := blen_row D2.out.gd hsn.out hr D2.out.ars; rw [hxl] at this; exact this)
          have hiI : (i : Int) < (N : Int) + 1 := by omega
          clear hr hxl
          generalize rs.getD i 0 = r at *
          go_wp2_with fail
          refine HC.out.mono ?_
          rintro e w3 ⟨rfl, hb⟩
          go_wp2_with fail
          go_roundw
          case rel => exact ⟨i + 1, by go_num, by omega, HB.out.trans (hb.mono HB.out.size)⟩
          case measure => simp [intOf]; omega
        · obtain rfl : i = N + 1 := by omega
          have HR := Lib.hid (reach_is D2.out.ars hsn.out.fit D2.out.lst.ints (by rw [D2.out.len]; have := HN.out; omega))
          clear i1 hi2
          go_wp2_with fail
          refine HR.out.mono ?_
          clear HR
          rintro e w3 ⟨v', ys, Ko, rfl, hl, _, hasc, hmem, hb⟩
          obtain ⟨av, cv, rfl⟩ := hl.slice
          have hle := reach_busy D2.out.gd hasc hmem
          have hmb := D2.out.mb
          have hcost := D2.out.cost
          have A3 := Lib.hid (D2.out.ars.below hb)
          have B3 := Lib.hid (D2.out.bel.trans (hb.mono D2.out.bel.size))
          obtain ⟨X, P, hX, c3, c5⟩ := prod_small HN.out hcost
          have HM := fun w => Lib.hid (show Calls Try.prog 24 #[.int .i64 N] w fun e w' => e = .returned (.int .i64 (X : Nat)) ∧ w = w' from by rw [hX]; exact made_num N (by have := HN.out; omega) w)
          have c1 : (ys.length : Int) ≤ s.made := by rw [hmb]; exact hle
          clear hle hmb hcost hX hl hasc hmem hb
          have HMd := fun W (ha : Ars W K p s) => Lib.hid (made_is (c := s.made) rfl ha)
          generalize s.made = md at *
          go_wp2_with fail
          refine (HMd _ A3.out).out.mono ?_
          rintro e w4 ⟨rfl, rfl⟩
          go_wp2_with fail
          refine (HMd _ A3.out).out.mono ?_
          rintro e w5 ⟨rfl, rfl⟩
          go_wp2_with fail
          refine (HM _).out.mono ?_
          rintro e w6 ⟨rfl, rfl⟩
          go_wp2_with fail
          go_ret
          exact ⟨rfl, B3.out⟩

set_option maxRecDepth 100000 in
theorem lifted (os : Os) (started : os.Started) (H : Type) (enc : TypeId × Value → H) :
    ReturnsInHanded {} Try.checked os 6 .any (Rows.bitsManySpec.pre6 enc Try.prog Try.f6 Rows.bitsManyRow.domain false) (Rows.bitsManySpec.post enc Try.prog Try.f6 false true false false) := by
  refine returnsInHanded_of_change (C := Try.checked) own_ started (by kernel_rfl) Try.func6
    (ChangeSpec.witness6 (enc := enc) (C := Try.checked) false ⟨#[], #[.int .i64 0, .bool false], []⟩ 8 (by kernel_rfl) (by kernel_rfl) (by kernel_rfl) (by kernel_rfl)) ?_
  intro W base args ds gs before hval0 hW _ _
  have hval : ∀ (j : Nat) t v, Try.f6.params[j]? = some t → args[j]? = some v → Value.okWide Try.prog W .any base t v := hval0
  have hW' := hW
  obtain ⟨p, q, hA0, hV, rfl, hfz, hnd⟩ := hW
  have hA : DataW.TrodAll enc Try.prog W 0 (fun _ => true) true Try.f6.params.toList args.toList ds p := hA0
  rw [Try.params6] at hA hval
  obtain ⟨v0, vs0, d0, ds0, p0, q0, hargs, rfl, rfl, h0, r0⟩ := trodAll_cons hA
  obtain ⟨v1, vs1, d1, ds1, p1, q1, rfl, rfl, rfl, h1, r1⟩ := trodAll_cons r0
  obtain ⟨rfl, rfl, rfl⟩ := trodAll_nil r1
  obtain rfl : args = #[v0, v1] := by cases args; simp_all
  obtain ⟨a0, rfl, rfl, rfl, w0⟩ := open_int Try.underlying3 (hval 0 3 v0 rfl rfl) h0
  obtain ⟨a1, rfl, rfl, rfl⟩ := open_bool Try.underlying4 (hval 1 4 v1 rfl rfl) h1
  clear hA0 hval0
  refine (walk a0 w0 a1 W ).mono fun e W' ⟨he, hg⟩ => ?_
  subst he
  exact ⟨_, rfl, law_post laid_ (by kernel_rfl) rfl hW' hg rfl Try.underlying4 ⟨rfl, rfl, rfl⟩⟩

theorem over : Rows.bitsManyRow.holds Try.pinned (OpenSpec.ofChange Rows.bitsManySpec) :=
  OpenClaim.holds_of_wide 6 Try.f6 rfl rfl rfl rfl rfl rfl rfl ⟨rfl, rfl, rfl, rfl, rfl⟩ rfl rfl rfl rfl rfl (by kernel_rfl) Try.func6 (by kernel_rfl)
    (of_decide_eq_true (by kernel_rfl)) (by unfold Func.isWrapper; first | (rw [if_pos (by decide +kernel)]; kernel_rfl) | (rw [if_neg (by decide +kernel)]; exact ⟨rfl, rfl⟩))
    (fun os started H enc _ => lifted os started H enc)

theorem proved : Rows.BitsManySaid :=
  over
#print axioms proved
end Go.Proofs.Ytjfeocoengheaaa.bitsMany
