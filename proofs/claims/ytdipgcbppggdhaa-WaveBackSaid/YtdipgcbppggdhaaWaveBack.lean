/- WaveBack holds: a symbol that is put in, and taken out again, leaves a row as it was; the row with it stays as it is. No condition. -/
import Derived.Test.YtdipgcbppggdhaaWv15
namespace Go.Proofs.Ytdipgcbppggdhaa.waveBack
set_option maxRecDepth 100000
open Go.ChangeShapes Go.WideShapes Go.ChangeAt Go.RowKit

theorem pick (i m : Int) (h1 : 1 ≤ m) (h2 : m ≤ 1000) : IntKind.i64.wrap (i.tmod m) = i.tmod m ∧ IntKind.i64.wrap (i.tmod m + (m - 1)) = i.tmod m + (m - 1) ∧ IntKind.i64.wrap (i.tmod m + (m - 1) + 1) = i.tmod m + (m - 1) + 1 ∧ ∃ k : Nat, (i.tmod m + (m - 1) + 1).tmod m = (k : Int) ∧ (k : Int) < m := by
  have a1 : i.tmod m < m := Int.tmod_lt_of_pos i (by omega)
  have a2 : -m < i.tmod m := by
    have := Int.lt_tmod_of_pos i (show 0 < m by omega)
    omega
  have a3 : 0 ≤ (i.tmod m + (m - 1) + 1) % m := Int.emod_nonneg _ (by omega)
  have a4 : (i.tmod m + (m - 1) + 1) % m < m := Int.emod_lt_of_pos _ (by omega)
  obtain ⟨k, hk⟩ := Int.eq_ofNat_of_zero_le a3
  refine ⟨bwrap_small (by omega) (by omega), bwrap_small (by omega) (by omega), bwrap_small (by omega) (by omega), k, ?_, by omega⟩
  rw [Int.tmod_eq_emod_of_nonneg (by omega)]
  exact hk
theorem del_ins {l : List Nat} {k : Nat} (hk : k ≤ l.length) (y : Nat) : wDel (wIns l k y) k = l := by
  have e : (l.take k).length = k := by rw [List.length_take]; omega
  unfold wDel wIns
  have h1 : (l.take k ++ y :: l.drop k).take k = l.take k := List.take_left' e
  have h2 : (l.take k ++ y :: l.drop k).drop (k + 1) = l.drop k := by
    rw [List.drop_append, e, List.drop_eq_nil_of_le (by rw [e]; omega), show k + 1 - k = 1 by omega]
    rfl
  rw [h1, h2, List.take_append_drop]
theorem ins_get {l : List Nat} {k : Nat} (hk : k ≤ l.length) (y : Nat) : (wIns l k y).getD k 0 = y := by
  have e : (l.take k).length = k := by rw [List.length_take]; omega
  unfold wIns
  rw [List.getD_eq_getElem?_getD, List.getElem?_append_right (by omega), e, Nat.sub_self]
  rfl
/-- What comes of both. -/
structure Facts (s : Ar) (h : Int) (zs : List Nat) (k u : Nat) (s1 s2 : Ar) (q1 q2 : Int) : Prop where
  gd : Gd s2 [q2, q1, h]
  snd : Snd s2
  one : WRow s2 [q2, q1, h] q1 (wIns zs k u)
  two : WRow s2 [q2, q1, h] q2 zs
  old : WRow s2 [q2, q1, h] h zs
  ins : ∀ {K : Nat → Prop} {p : Nat} {w : World}, Ars w K p s → Calls Try.prog 17 #[.pointer (some ⟨p, 0, none⟩), .int .i64 h, .int .i64 k, .int .i64 u] w fun o w' => o = .returned (.tuple #[.int .i64 q1, .int .i64 0]) ∧ Ars w' K p s1 ∧ Kept K w w'
  del : ∀ {K : Nat → Prop} {p : Nat} {w : World}, Ars w K p s1 → Calls Try.prog 21 #[.pointer (some ⟨p, 0, none⟩), .int .i64 q1, .int .i64 k] w fun o w' => o = .returned (.tuple #[.int .i64 q2, .int .i64 0]) ∧ Ars w' K p s2 ∧ Kept K w w'
theorem facts {s : Ar} {h : Int} {zs : List Nat} (W : WSt s h zs) (hl : zs.length ≤ 40) {k u : Nat} (hk : k ≤ zs.length) (hu : u < 257) : ∃ s1 s2 q1 q2, Facts s h zs k u s1 s2 q1 q2 := by
  have hb := W.busy
  have hmb := W.mb
  have hn := W.n
  have hs := hi_sm (N := zs.length) (by omega)
  have hlen := wIns_len (v := u) hk
  have hs2 := hi_sm (N := (wIns zs k u).length) (by omega)
  obtain ⟨s1, q1, W1, g1, r1, c1⟩ := wInsert_yes (v := u) W.gd W.row hk (by omega) hu (by simp) (by omega) (by omega)
  have md1 := W1.md
  have n1 := W1.ext.n
  obtain ⟨j1, d1, d2, d3⟩ := W1.made
  obtain ⟨s2, q2, W2, g2, r2, c2⟩ := wDelete_yes (i := k) g1 r1 (by omega) (by simp) (by omega) (by omega)
  have md2 := W2.md
  rw [del_ins hk] at r2
  exact ⟨s1, s2, q1, q2, ⟨g2, g2.snd (by simp) (by omega), r1.ext W2.ext fun x hx => List.mem_cons_of_mem _ hx, r2, (W.row.ext W1.ext fun x hx => List.mem_cons_of_mem _ hx).ext W2.ext fun x hx => List.mem_cons_of_mem _ hx, fun ha => c1 ha, fun ha => c2 ha⟩⟩
set_option maxRecDepth 100000 in
set_option maxHeartbeats 16000000 in
theorem walk (v : Value) (xs : List Int) (i : Int) (_w1 : (Lit.int .i64 i).wf = true) (sy : Int) (_w2 : (Lit.int .i64 sy).wf = true) (w : World) (hx : IntsArg w v xs) :
    Calls Try.prog 5 #[v, .int .i64 i, .int .i64 sy] w fun e w' => e = .returned (.bool true) ∧ Below w.heap.size w w' := by
  have HA := Lib.hid alive9
  obtain ⟨av, cv, hv⟩ := hx.val
  obtain ⟨n, hn⟩ : ∃ n, n = xs.length := ⟨_, rfl⟩
  rw [← hn] at hv
  by_cases h40 : 40 < n
  · subst hv
    have h3 : (40 : Int) < (n : Int) := by omega
    clear hx hn h40
    go_enter Try.func5, Try.ntmps5
    go_wp2_with fail
    refine (HA.out w).mono ?_
    rintro e w1 ⟨rfl, hb⟩
    go_wp2_with fail
    go_ret
    exact ⟨rfl, hb⟩
  have h3 : (n : Int) ≤ 40 := by omega
  by_cases s0 : sy < 0
  · subst hv
    clear hx hn h40
    go_enter Try.func5, Try.ntmps5
    go_wp2_with fail
    refine (HA.out w).mono ?_
    rintro e w1 ⟨rfl, hb⟩
    go_wp2_with fail
    go_ret
    exact ⟨rfl, hb⟩
  by_cases s1 : 257 ≤ sy
  · subst hv
    have s2 : 0 ≤ sy := by omega
    clear hx hn h40 s0
    go_enter Try.func5, Try.ntmps5
    go_wp2_with fail
    refine (HA.out w).mono ?_
    rintro e w1 ⟨rfl, hb⟩
    go_wp2_with fail
    go_ret
    exact ⟨rfl, hb⟩
  obtain ⟨u, rfl⟩ := Int.eq_ofNat_of_zero_le (show 0 ≤ sy by omega)
  have uI : (u : Int) < 257 := by omega
  have HU := Lib.hid (show u < 257 by omega)
  clear s0 s1
  have HC := Lib.hid (column_is hx.iv (by omega))
  cases hcol : xs.all fun x => decide (0 ≤ x ∧ x < 257)
  · rw [hcol] at HC
    subst hv
    clear hx hn h40 hcol
    go_enter Try.func5, Try.ntmps5
    go_wp2_with fail
    refine HC.out.mono ?_
    rintro e w1 ⟨rfl, q, rfl⟩
    go_wp2_with fail
    refine (HA.out _).mono ?_
    rintro e w2 ⟨rfl, hb⟩
    go_wp2_with fail
    go_ret
    exact ⟨rfl, (below_drewN (Below.refl _ _) q).trans hb⟩
  rw [hcol] at HC
  obtain ⟨zs, rfl, hz⟩ := col_nat hcol
  rw [zl_len] at hn
  have HZ := Lib.hid hz
  have HN := Lib.hid hn
  have HL := Lib.hid (show zs.length ≤ 40 by omega)
  have HX := Lib.hid hx.iv
  clear hx hn h40 hcol hz
  subst hv
  obtain ⟨p1, p2, p3, k, p4, p5⟩ := pick i ((n : Int) + 1) (by omega) (by omega)
  rw [show (n : Int) + 1 - 1 = (n : Int) by omega] at p2 p3 p4
  have Hk := Lib.hid (show k ≤ zs.length by have := HN.out; omega)
  have hkn : (k : Int) ≤ (n : Int) := by omega
  clear p5
  go_enter Try.func5, Try.ntmps5
  go_wp2_with fail
  refine HC.out.mono ?_
  rintro e w1 ⟨rfl, q1, rfl⟩
  go_wp2_with fail
  refine (HA.out _).mono ?_
  rintro e w2 ⟨rfl, hb⟩
  have B2 := Lib.hid ((below_drewN (Below.refl w.heap.size w) q1).trans hb)
  clear hb HC HA
  go_wp2_with fail
  refine (new_yes 6000 _ (by decide) (by decide)).mono ?_
  rintro e w3 ⟨p, rfl, hb, ha⟩
  have A3 := Lib.hid (ha (fun b => b < w.heap.size) (fun b hb => by have := B2.out.size; omega))
  have B3 := Lib.hid (B2.out.trans (hb.mono B2.out.size))
  clear hb ha B2
  go_wp2_with fail
  refine (wbuild_is HZ.out (by have := HL.out; omega) A3.out (fun W hk => HX.out.below (B3.out.trans (hk.below_of B3.out.size)))).mono ?_
  rintro e w4 ⟨s, h, rfl, hw, ha, hk⟩
  have HW := Lib.hid hw
  have A4 := Lib.hid ha
  have B4 := Lib.hid (B3.out.trans (hk.below_of B3.out.size))
  have Sn := Lib.hid (hw.gd.snd (by simp) (by have := hw.mb; have := HL.out; omega))
  clear hw ha hk A3 B3
  obtain ⟨s1, s2, q1, q2, hf⟩ := facts HW.out HL.out Hk.out HU.out
  have F := Lib.hid hf
  have HI := Lib.hid (hf.ins A4.out)
  have HD := Lib.hid (fun W (ha : Ars W (fun b => b < w.heap.size) p s1) => hf.del ha)
  clear hf
  go_wp2_with fail
  refine HI.out.mono ?_
  rintro e w5 ⟨rfl, ha, hk⟩
  have A5 := Lib.hid ha
  have B5 := Lib.hid (B4.out.trans (hk.below_of B4.out.size))
  clear ha hk HI A4 B4
  go_wp2_with fail
  refine (HD.out _ A5.out).mono ?_
  rintro e w6 ⟨rfl, ha, hk⟩
  have A6 := Lib.hid ha
  have B6 := Lib.hid (B5.out.trans (hk.below_of B5.out.size))
  clear ha hk HD A5 B5
  have HGt := Lib.hid (show Calls Try.prog 16 #[.pointer (some ⟨p, 0, none⟩), .int .i64 q1, .int .i64 k] w6 fun e w' => e = .returned (.tuple #[.int .i64 u, .bool true]) ∧ Below w6.heap.size w6 w' from by
    have hh := wget_row (i := k) F.out.gd F.out.snd F.out.one A6.out (by rw [wIns_len Hk.out]; have := Hk.out; omega)
    rw [ins_get Hk.out] at hh
    exact hh)
  go_wp2_with fail
  refine HGt.out.mono ?_
  rintro e w7 ⟨rfl, b7⟩
  have A7 := Lib.hid (A6.out.below b7)
  have B7 := Lib.hid (B6.out.trans (b7.mono B6.out.size))
  clear b7 HGt A6 B6
  go_wp2_with fail
  refine (wall_row F.out.gd F.out.snd F.out.two A7.out).mono ?_
  rintro e w8 ⟨v8, K8, rfl, l8, _, b8⟩
  have A8 := Lib.hid (A7.out.below b8)
  have B8 := Lib.hid (B7.out.trans (b8.mono B7.out.size))
  have L8 := Lib.hid l8.ints.iv
  clear b8 l8 A7 B7
  go_wp2_with fail
  refine (same_ints_is (xs := zl zs) L8.out (HX.out.below B8.out) (by rw [zl_len]; have := HL.out; omega)).mono ?_
  rintro e w9 ⟨rfl, q9, rfl⟩
  have A9 := Lib.hid (A8.out.drewN q9)
  have B9 := Lib.hid (below_drewN B8.out q9)
  clear A8 B8 L8
  go_wp2_with fail
  refine (wall_row F.out.gd F.out.snd F.out.old A9.out).mono ?_
  rintro e w10 ⟨v10, K10, rfl, l10, _, b10⟩
  have A10 := Lib.hid (A9.out.below b10)
  have B10 := Lib.hid (B9.out.trans (b10.mono B9.out.size))
  have L10 := Lib.hid l10.ints.iv
  clear b10 l10 A9 B9
  go_wp2_with fail
  refine (same_ints_is (xs := zl zs) L10.out (HX.out.below B10.out) (by rw [zl_len]; have := HL.out; omega)).mono ?_
  rintro e w11 ⟨rfl, q11, rfl⟩
  have A11 := Lib.hid (A10.out.drewN q11)
  have B11 := Lib.hid (below_drewN B10.out q11)
  clear A10 B10 L10
  have HLn := Lib.hid (show Calls Try.prog 20 #[.pointer (some ⟨p, 0, none⟩), .int .i64 q1] (w10.drewN q11) fun e w' => e = .returned (.int .i64 ((n : Int) + 1)) ∧ Below (w10.drewN q11).heap.size (w10.drewN q11) w' from by
    have hh := wlen_row F.out.gd F.out.snd F.out.one A11.out
    rw [wIns_len Hk.out, ← HN.out] at hh
    exact hh)
  go_wp2_with fail
  refine HLn.out.mono ?_
  rintro e w12 ⟨rfl, b12⟩
  go_wp2_with fail
  go_ret
  exact ⟨rfl, B11.out.trans (b12.mono B11.out.size)⟩

set_option maxRecDepth 100000 in
theorem lifted (os : Os) (started : os.Started) (H : Type) (enc : TypeId × Value → H) :
    ReturnsInHanded {} Try.checked os 5 .any (Rows.waveBackSpec.pre6 enc Try.prog Try.f5 Rows.waveBackRow.domain false) (Rows.waveBackSpec.post enc Try.prog Try.f5 false true false false) := by
  refine returnsInHanded_of_change (C := Try.checked) own_ started (by kernel_rfl) Try.func5
    (ChangeSpec.witness6 (enc := enc) (C := Try.checked) false ⟨#[], #[.slice none 0 0, .int .i64 0, .int .i64 0], []⟩ 8 (by kernel_rfl) (by kernel_rfl) (by kernel_rfl) (by kernel_rfl)) ?_
  intro W base args ds gs before hval0 hW _ _
  have hval : ∀ (j : Nat) t v, Try.f5.params[j]? = some t → args[j]? = some v → Value.okWide Try.prog W .any base t v := hval0
  have hW' := hW
  obtain ⟨p, q, hA0, hV, rfl, hfz, hnd⟩ := hW
  have hA : DataW.TrodAll enc Try.prog W 0 (fun _ => true) true Try.f5.params.toList args.toList ds p := hA0
  rw [Try.params5] at hA hval
  obtain ⟨v0, vs0, d0, ds0, p0, q0, hargs, rfl, rfl, h0, r0⟩ := trodAll_cons hA
  obtain ⟨v1, vs1, d1, ds1, p1, q1, rfl, rfl, rfl, h1, r1⟩ := trodAll_cons r0
  obtain ⟨v2, vs2, d2, ds2, p2, q2, rfl, rfl, rfl, h2, r2⟩ := trodAll_cons r1
  obtain ⟨rfl, rfl, rfl⟩ := trodAll_nil r2
  obtain rfl : args = #[v0, v1, v2] := by cases args; simp_all
  obtain ⟨x0, hx0⟩ := ints_arg (hval 0 22 v0 rfl rfl) h0
  obtain ⟨a1, rfl, rfl, rfl, w1⟩ := open_int Try.underlying3 (hval 1 3 v1 rfl rfl) h1
  obtain ⟨a2, rfl, rfl, rfl, w2⟩ := open_int Try.underlying3 (hval 2 3 v2 rfl rfl) h2
  clear hA0 hval0
  refine (walk v0 x0 a1 w1 a2 w2 W hx0).mono fun e W' ⟨he, hg⟩ => ?_
  subst he
  exact ⟨_, rfl, law_post laid_ (by kernel_rfl) rfl hW' hg rfl Try.underlying4 ⟨rfl, rfl, rfl⟩⟩

theorem over : Rows.waveBackRow.holds Try.pinned (OpenSpec.ofChange Rows.waveBackSpec) :=
  OpenClaim.holds_of_wide 5 Try.f5 rfl rfl rfl rfl rfl rfl rfl ⟨rfl, rfl, rfl, rfl, rfl⟩ rfl rfl rfl rfl rfl (by kernel_rfl) Try.func5 (by kernel_rfl)
    (of_decide_eq_true (by kernel_rfl)) (by unfold Func.isWrapper; first | (rw [if_pos (by decide +kernel)]; kernel_rfl) | (rw [if_neg (by decide +kernel)]; exact ⟨rfl, rfl⟩))
    (fun os started H enc _ => lifted os started H enc)

theorem proved : Rows.WaveBackSaid :=
  over
#print axioms proved
end Go.Proofs.Ytdipgcbppggdhaa.waveBack
