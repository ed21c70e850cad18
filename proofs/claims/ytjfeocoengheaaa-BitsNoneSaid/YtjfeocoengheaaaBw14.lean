/- Package bits: how many of the first ones are 1; the place of one of those that are alike. -/
import Derived.Test.YtjfeocoengheaaaBw13
namespace Go.Proofs.Ytjfeocoengheaaa
set_option maxRecDepth 100000
open Go.RowKit

theorem count_not (l : List Bool) : l.count false + l.count true = l.length := by
  induction l with
  | nil => rfl
  | cons b r ih => cases b <;> simp <;> omega
theorem bsel_left {a b : List Bool} {one : Bool} {k : Nat} (h : k < a.count one) : bsel (a ++ b) one k = bsel a one k := by
  obtain ⟨h1, h2, h3⟩ := bsel_is a one k h
  refine bsel_eq _ _ _ _ ?_ (by rw [List.length_append]; omega) ?_
  · rw [List.take_append_of_le_length (by omega)]; exact h3
  · simp only [List.getD_eq_getElem?_getD] at h2 ⊢
    rw [List.getElem?_append_left h1]; exact h2
theorem bsel_right {a b : List Bool} {one : Bool} {k : Nat} (h : a.count one ≤ k) (hk : k < (a ++ b).count one) : bsel (a ++ b) one k = a.length + bsel b one (k - a.count one) := by
  rw [List.count_append] at hk
  obtain ⟨h1, h2, h3⟩ := bsel_is b one (k - a.count one) (by omega)
  refine bsel_eq _ _ _ _ ?_ (by rw [List.length_append]; omega) ?_
  · rw [List.take_append, List.take_of_length_le (by omega), List.count_append, show a.length + bsel b one (k - a.count one) - a.length = bsel b one (k - a.count one) by omega, h3]; omega
  · simp only [List.getD_eq_getElem?_getD] at h2 ⊢
    rw [List.getElem?_append_right (by omega), show a.length + bsel b one (k - a.count one) - a.length = bsel b one (k - a.count one) by omega]; exact h2
theorem BT.alike (t : BT) (one : Bool) : t.list.count one = if one = true then t.ones else t.len - t.ones := by
  have h1 := t.ones_list
  have h2 := t.len_list
  have h3 := count_not t.list
  cases one
  · rw [if_neg (by decide)]; omega
  · rw [if_pos rfl]; exact h1
section
variable {K : Nat → Prop} {p : Nat} {s : Ar} {L : List Int} {w : World}
def RankJ (K : Nat → Prop) (p : Nat) (s : Ar) (L : List Int) (w : World) (goal : Nat) (k : Nat) (a : Act) (W : World) : Prop :=
  ∃ (h : Int) (i ac : Nat) (t : BT) (u3 u4 u5 u8 u9 u10 u11 u12 u13 u14 u15 u16 u17 u18 u19 u20 u21 u22 u23 u24 u25 u26 u27 u28 u29 u30 u31 u32 u33 u34 u35 u36 u37 u38 u39 u40 u41 u42 u43 u44 u45 u46 u47 u48 u49 u50 u51 u52 u53 : Value), a = { tmps := #[.pointer (some ⟨p, 0, none⟩), .int .i64 h, .int .i64 i, u3, u4, u5, .int .i64 0, .int .i64 ac, u8, u9, u10, u11, u12, u13, u14, u15, u16, u17, u18, u19, u20, u21, u22, u23, u24, u25, u26, u27, u28, u29, u30, u31, u32, u33, u34, u35, u36, u37, u38, u39, u40, u41, u42, u43, u44, u45, u46, u47, u48, u49, u50, u51, u52, u53], defers := [] } ∧ Rdt K p s L w k h t W ∧ i ≤ t.len ∧ ac + (t.list.take i).count true = goal
set_option maxRecDepth 100000 in
set_option maxHeartbeats 8000000 in
theorem brank_in {hn : Int} {t : BT} {m : Nat} (g : Gd s L) (sn : Snd s) (hr : Rdt K p s L w t.high hn t w) (hml : m ≤ t.len) (h1 : 1 ≤ m) :
    Calls Try.prog 16 #[.pointer (some ⟨p, 0, none⟩), .int .i64 hn, .int .i64 m] w fun e w' => e = .returned (.int .i64 ((t.list.take m).count true : Nat)) ∧ Ars w' K p s ∧ Below w.heap.size w w' := by
  obtain ⟨v, hv, vl, _, _⟩ := vw_any hr.rep g hr.firm (by have := hr.len; omega)
  have HL := blen_is hv hr.ars sn.fit
  rw [vl] at HL
  have H0 := Lib.hid HL
  have R0 := Lib.hid (fun W (hb : Below w.heap.size w W) => show Rdt K p s L w t.high hn t W from ⟨hr.ars.below hb, hb, hr.rep, hr.firm, hr.solid, hr.len, hr.high⟩)
  have hi2 : (t.len : Int) ≤ 400000 := by have := hr.len; omega
  have G := Lib.hid g
  have SN := Lib.hid sn
  have Hml := Lib.hid (show m ≤ t.len by omega)
  generalize hgoal : (t.list.take m).count true = goal
  have Hgoal := Lib.hid hgoal
  have Hgl := Lib.hid (show goal ≤ 400000 by have h5 : (t.list.take m).count true ≤ (t.list.take m).length := List.count_le_length; have h6 := hr.len; rw [List.length_take, BT.len_list] at h5; omega)
  have hm0 : ((m : Int) == 0) = false := beq_eq_false_iff_ne.2 (by omega)
  have hfa : (m : Int) ≤ (t.len : Int) := by omega
  have hfb : 1 ≤ (m : Int) := by omega
  clear HL hv vl g sn hr hgoal hml
  go_enter Try.func16, Try.ntmps16
  go_wp2_with fail
  refine wp_scope_ghost 0 (RankJ K p s L w goal) rfl ?pass ?first
  case first =>
    intro hp
    go_wp2_with fail
    refine H0.out.mono ?_
    rintro o w1 ⟨rfl, ha1, hk1⟩
    go_wp2_with fail
    go_step3
    rename_i K hK
    exact hK _ _ (hp.out _ _ _ ⟨hn, m, 0, t, _, _, _, _, _, _, _, _, _, _, _, _, _, _, _, _, _, _, _, _, _, _, _, _, _, _, _, _, _, _, _, _, _, _, _, _, _, _, _, _, _, _, _, _, _, _, _, _, _, rfl, R0.out _ hk1, Hml.out, by have := Hgoal.out; omega⟩)
  case pass =>
    clear H0 R0 hi2 Hml Hgoal hm0 hfa hfb h1
    rintro gk a' W0 ⟨h', i', ac, t', u3, u4, u5, u8, u9, u10, u11, u12, u13, u14, u15, u16, u17, u18, u19, u20, u21, u22, u23, u24, u25, u26, u27, u28, u29, u30, u31, u32, u33, u34, u35, u36, u37, u38, u39, u40, u41, u42, u43, u44, u45, u46, u47, u48, u49, u50, u51, u52, u53, rfl, hd, hle, hat⟩
    have Hd := Lib.hid hd
    cases t' with
    | nil => exact hd.solid.elim
    | leaf l =>
      have hv := hd.leaf G.out
      have H := Lib.hid (row_leaf hv hd.ars SN.out.fit)
      have hl64 := hv.2.2
      have hlt : i' ≤ l.length := hle
      have hat : ac + (l.take i').count true = goal := hat
      have hcl : (l.take i').count true ≤ (l.take i').length := List.count_le_length
      rw [List.length_take] at hcl
      have HB := fun w => Lib.hid (bbits_is l w hl64)
      have HG := fun w => Lib.hid (lrank_is l i' w hl64 hlt)
      have Ha := Lib.hid hd.ars
      have Hbl := Lib.hid hd.below
      have hgl := Hgl.out
      generalize (l.take i').count true = cc at *
      have hsum : (ac : Int) + (cc : Int) = (goal : Int) := by omega
      have hg1 : (goal : Int) ≤ 400000 := by omega
      clear hd hv hl64 hlt hat hle hcl Hd hgl
      go_wp2_with fail
      refine H.out.mono ?_
      rintro o w1 ⟨rfl, ha1, hk1⟩
      have B1 := Lib.hid (hk1.alloc hk1.size (.cells #[.int .i64 1, .int .i64 0, .int .i64 0, .int .i64 0, .int .i64 0, .int .u64 (bN l), .int .u64 l.length] 44))
      clear ha1 hk1 H
      go_wp2_with fail
      refine (HB _).out.mono ?_
      rintro o w2 ⟨rfl, hk2⟩
      have B2 := Lib.hid (B1.out.trans (hk2.mono B1.out.size))
      clear hk2 B1 HB
      go_wp2_with fail
      refine (HG _).out.mono ?_
      rintro o w3 ⟨rfl, hk3⟩
      have B3 := Lib.hid (B2.out.trans (hk3.mono B2.out.size))
      clear hk3 B2
      go_wp2_with fail
      simp only [Exit.jump]
      go_ret
      exact ⟨rfl, Ha.out.below B3.out, Hbl.out.trans (B3.out.mono Hbl.out.size)⟩
    | fork x y =>
      obtain ⟨k0, k1, hv, r0, r1, f0, f1⟩ := hd.kids G.out
      obtain ⟨m, o, hv⟩ : ∃ m o, Vw s h' (.fork k0 k1 m o) := ⟨_, _, hv⟩
      obtain ⟨v0, hv0, vl0, vo0, _⟩ := vw_any r0 G.out f0 (by have := hd.len; have e : (BT.fork x y).len = x.len + y.len := rfl; omega)
      have H := Lib.hid (row_fork hv hd.ars SN.out.fit)
      have HL := fun W (ha : Ars W K p s) => blen_is hv0 ha SN.out.fit
      have HO := fun W (ha : Ars W K p s) => bones_is hv0 ha SN.out.fit
      rw [vl0] at HL
      rw [vo0] at HO
      replace HL := fun W ha => Lib.hid (HL W ha)
      replace HO := fun W ha => Lib.hid (HO W ha)
      have hlen := hd.len
      have hhigh := hd.high
      have el : (BT.fork x y).len = x.len + y.len := rfl
      have eh : (BT.fork x y).high = 1 + max x.high y.high := rfl
      rw [el] at hlen
      rw [eh] at hhigh
      have hl2 : (x.len : Int) ≤ 400000 := by omega
      have hol := x.ones_le
      have ho2 : (x.ones : Int) ≤ (x.len : Int) := by omega
      have hle2 : i' ≤ x.len + y.len := hle
      have hat2 : ac + ((x.list ++ y.list).take i').count true = goal := hat
      have Hat := Lib.hid hat2
      have hi3 : (i' : Int) ≤ 400000 := by omega
      have hgl := Hgl.out
      have hac : (ac : Int) ≤ 400000 := by omega
      have hxo := x.ones_list
      clear hle hat hat2
      have hxl := x.len_list
      have hyl := y.len_list
      have Ha := Lib.hid hd.ars
      have Hbl := Lib.hid hd.below
      have Rx := Lib.hid (fun W (hb : Below W0.heap.size W0 W) k (hk : x.high ≤ k) => show Rdt K p s L w k k0 x W from ⟨hd.ars.below hb, hd.below.trans (hb.mono hd.below.size), r0, f0, hd.solid.1, by omega, hk⟩)
      have Ry := Lib.hid (fun W (hb : Below W0.heap.size W0 W) k (hk : y.high ≤ k) => show Rdt K p s L w k k1 y W from ⟨hd.ars.below hb, hd.below.trans (hb.mono hd.below.size), r1, f1, hd.solid.2, by omega, hk⟩)
      clear hd hv hv0 vl0 vo0 Hd r0 r1 f0 f1 el eh hlen
      go_wp2_with fail
      refine H.out.mono ?_
      rintro o w1 ⟨rfl, ha1, hk1⟩
      have B1 := Lib.hid (hk1.alloc hk1.size (.cells #[.int .i64 2, .int .i64 k0, .int .i64 k1, .int .i64 0, .int .i64 0, .int .u64 m, .int .u64 o] 44))
      have hx := heap_alloc_new w1 (.cells #[.int .i64 2, .int .i64 k0, .int .i64 k1, .int .i64 0, .int .i64 0, .int .u64 m, .int .u64 o] 44)
      have A1 := Lib.hid (ha1.alloc (.cells #[.int .i64 2, .int .i64 k0, .int .i64 k1, .int .i64 0, .int .i64 0, .int .u64 m, .int .u64 o] 44))
      clear ha1 hk1 H
      go_wp2_with fail
      generalize w1.alloc (.cells #[.int .i64 2, .int .i64 k0, .int .i64 k1, .int .i64 0, .int .i64 0, .int .u64 m, .int .u64 o] 44) = w2 at *
      generalize w1.heap.size = z at *
      refine (HL _ A1.out).out.mono ?_
      rintro o w3 ⟨rfl, ha3, hk3⟩
      have B3 := Lib.hid (B1.out.trans (hk3.mono B1.out.size))
      have Hx3 := Lib.hid ((hk3.block z (lt_heap hx)).trans hx)
      have y2 : w3.cell? ⟨z, 2, none⟩ = some (.int .i64 k1) := cell_of_row _ _ _ _ _ _ Hx3.out
      have A3 := Lib.hid ha3
      clear ha3 hk3 hx B1 A1
      by_cases hil : x.len < i'
      · have hil' : (x.len : Int) < (i' : Int) := by omega
        have e1 : ((i' - x.len : Nat) : Int) = (i' : Int) - (x.len : Int) := by omega
        have hat2 : (ac + x.ones) + (y.list.take (i' - x.len)).count true = goal := by
          rw [← Hat.out, List.take_append, List.take_of_length_le (l := x.list) (i := i') (by omega), List.count_append, hxo, hxl]; omega
        have e2 : ((ac + x.ones : Nat) : Int) = (ac : Int) + (x.ones : Int) := by omega
        have E1 := Lib.hid e1
        have E2 := Lib.hid e2
        have H2 := Lib.hid hat2
        clear e1 hat2 hil hxo hxl hyl hgl e2
        go_wp2_with fail
        refine (HO _ A3.out).out.mono ?_
        rintro o w4 ⟨rfl, ha4, hk4⟩
        have B4 := Lib.hid (B3.out.trans (hk4.mono B3.out.size))
        have y3 : w4.cell? ⟨z, 2, none⟩ = some (.int .i64 k1) := cell_of_row _ _ _ _ _ _ ((hk4.block z (lt_heap Hx3.out)).trans Hx3.out)
        clear ha4 hk4 y2
        go_wp2_with fail
        go_step3
        exact ⟨rfl, gk - 1, by omega, k1, i' - x.len, ac + x.ones, y, _, _, _, _, _, _, _, _, _, _, _, _, _, _, _, _, _, _, _, _, _, _, _, _, _, _, _, _, _, _, _, _, _, _, _, _, _, _, _, _, _, _, _, _, _, _, _, _, _, by rw [E1.out, E2.out], Ry.out _ B4.out _ (by omega), by omega, H2.out⟩
      · have hil' : (i' : Int) ≤ (x.len : Int) := by omega
        have hat2 : ac + (x.list.take i').count true = goal := by
          rw [← Hat.out, List.take_append_of_le_length (by omega)]
        have H2 := Lib.hid hat2
        clear hat2 hil hxo hxl hyl hgl
        go_wp2_with fail
        go_step3
        exact ⟨rfl, gk - 1, by omega, k0, i', ac, x, _, _, _, _, _, _, _, _, _, _, _, _, _, _, _, _, _, _, _, _, _, _, _, _, _, _, _, _, _, _, _, _, _, _, _, _, _, _, _, _, _, _, _, _, _, _, _, _, _, rfl, Rx.out _ B3.out _ (by omega), by omega, H2.out⟩
set_option maxRecDepth 100000 in
set_option maxHeartbeats 8000000 in
theorem brank_over {hn : Int} {t : BT} {i : Int} {m : Nat} (g : Gd s L) (sn : Snd s) (hr : Rdt K p s L w t.high hn t w) (hml : m = t.len ∧ (t.len : Int) < i) (h1 : 1 ≤ m) :
    Calls Try.prog 16 #[.pointer (some ⟨p, 0, none⟩), .int .i64 hn, .int .i64 i] w fun e w' => e = .returned (.int .i64 ((t.list.take m).count true : Nat)) ∧ Ars w' K p s ∧ Below w.heap.size w w' := by
  obtain ⟨v, hv, vl, _, _⟩ := vw_any hr.rep g hr.firm (by have := hr.len; omega)
  have HL := blen_is hv hr.ars sn.fit
  rw [vl] at HL
  have H0 := Lib.hid HL
  have R0 := Lib.hid (fun W (hb : Below w.heap.size w W) => show Rdt K p s L w t.high hn t W from ⟨hr.ars.below hb, hb, hr.rep, hr.firm, hr.solid, hr.len, hr.high⟩)
  have hi2 : (t.len : Int) ≤ 400000 := by have := hr.len; omega
  have G := Lib.hid g
  have SN := Lib.hid sn
  have Hml := Lib.hid (show m ≤ t.len by omega)
  generalize hgoal : (t.list.take m).count true = goal
  have Hgoal := Lib.hid hgoal
  have Hgl := Lib.hid (show goal ≤ 400000 by have h5 : (t.list.take m).count true ≤ (t.list.take m).length := List.count_le_length; have h6 := hr.len; rw [List.length_take, BT.len_list] at h5; omega)
  have hm0 : ((m : Int) == 0) = false := beq_eq_false_iff_ne.2 (by omega)
  obtain ⟨rfl, hfa⟩ := hml
  have hfb : 1 ≤ i := by omega
  have hml : True := trivial
  clear HL hv vl g sn hr hgoal hml
  go_enter Try.func16, Try.ntmps16
  go_wp2_with fail
  refine wp_scope_ghost 0 (RankJ K p s L w goal) rfl ?pass ?first
  case first =>
    intro hp
    go_wp2_with fail
    refine H0.out.mono ?_
    rintro o w1 ⟨rfl, ha1, hk1⟩
    go_wp2_with fail
    go_step3
    rename_i K hK
    exact hK _ _ (hp.out _ _ _ ⟨hn, t.len, 0, t, _, _, _, _, _, _, _, _, _, _, _, _, _, _, _, _, _, _, _, _, _, _, _, _, _, _, _, _, _, _, _, _, _, _, _, _, _, _, _, _, _, _, _, _, _, _, _, _, _, rfl, R0.out _ hk1, Hml.out, by have := Hgoal.out; omega⟩)
  case pass =>
    clear H0 R0 hi2 Hml Hgoal hm0 hfa hfb h1
    rintro gk a' W0 ⟨h', i', ac, t', u3, u4, u5, u8, u9, u10, u11, u12, u13, u14, u15, u16, u17, u18, u19, u20, u21, u22, u23, u24, u25, u26, u27, u28, u29, u30, u31, u32, u33, u34, u35, u36, u37, u38, u39, u40, u41, u42, u43, u44, u45, u46, u47, u48, u49, u50, u51, u52, u53, rfl, hd, hle, hat⟩
    have Hd := Lib.hid hd
    cases t' with
    | nil => exact hd.solid.elim
    | leaf l =>
      have hv := hd.leaf G.out
      have H := Lib.hid (row_leaf hv hd.ars SN.out.fit)
      have hl64 := hv.2.2
      have hlt : i' ≤ l.length := hle
      have hat : ac + (l.take i').count true = goal := hat
      have hcl : (l.take i').count true ≤ (l.take i').length := List.count_le_length
      rw [List.length_take] at hcl
      have HB := fun w => Lib.hid (bbits_is l w hl64)
      have HG := fun w => Lib.hid (lrank_is l i' w hl64 hlt)
      have Ha := Lib.hid hd.ars
      have Hbl := Lib.hid hd.below
      have hgl := Hgl.out
      generalize (l.take i').count true = cc at *
      have hsum : (ac : Int) + (cc : Int) = (goal : Int) := by omega
      have hg1 : (goal : Int) ≤ 400000 := by omega
      clear hd hv hl64 hlt hat hle hcl Hd hgl
      go_wp2_with fail
      refine H.out.mono ?_
      rintro o w1 ⟨rfl, ha1, hk1⟩
      have B1 := Lib.hid (hk1.alloc hk1.size (.cells #[.int .i64 1, .int .i64 0, .int .i64 0, .int .i64 0, .int .i64 0, .int .u64 (bN l), .int .u64 l.length] 44))
      clear ha1 hk1 H
      go_wp2_with fail
      refine (HB _).out.mono ?_
      rintro o w2 ⟨rfl, hk2⟩
      have B2 := Lib.hid (B1.out.trans (hk2.mono B1.out.size))
      clear hk2 B1 HB
      go_wp2_with fail
      refine (HG _).out.mono ?_
      rintro o w3 ⟨rfl, hk3⟩
      have B3 := Lib.hid (B2.out.trans (hk3.mono B2.out.size))
      clear hk3 B2
      go_wp2_with fail
      simp only [Exit.jump]
      go_ret
      exact ⟨rfl, Ha.out.below B3.out, Hbl.out.trans (B3.out.mono Hbl.out.size)⟩
    | fork x y =>
      obtain ⟨k0, k1, hv, r0, r1, f0, f1⟩ := hd.kids G.out
      obtain ⟨m, o, hv⟩ : ∃ m o, Vw s h' (.fork k0 k1 m o) := ⟨_, _, hv⟩
      obtain ⟨v0, hv0, vl0, vo0, _⟩ := vw_any r0 G.out f0 (by have := hd.len; have e : (BT.fork x y).len = x.len + y.len := rfl; omega)
      have H := Lib.hid (row_fork hv hd.ars SN.out.fit)
      have HL := fun W (ha : Ars W K p s) => blen_is hv0 ha SN.out.fit
      have HO := fun W (ha : Ars W K p s) => bones_is hv0 ha SN.out.fit
      rw [vl0] at HL
      rw [vo0] at HO
      replace HL := fun W ha => Lib.hid (HL W ha)
      replace HO := fun W ha => Lib.hid (HO W ha)
      have hlen := hd.len
      have hhigh := hd.high
      have el : (BT.fork x y).len = x.len + y.len := rfl
      have eh : (BT.fork x y).high = 1 + max x.high y.high := rfl
      rw [el] at hlen
      rw [eh] at hhigh
      have hl2 : (x.len : Int) ≤ 400000 := by omega
      have hol := x.ones_le
      have ho2 : (x.ones : Int) ≤ (x.len : Int) := by omega
      have hle2 : i' ≤ x.len + y.len := hle
      have hat2 : ac + ((x.list ++ y.list).take i').count true = goal := hat
      have Hat := Lib.hid hat2
      have hi3 : (i' : Int) ≤ 400000 := by omega
      have hgl := Hgl.out
      have hac : (ac : Int) ≤ 400000 := by omega
      have hxo := x.ones_list
      clear hle hat hat2
      have hxl := x.len_list
      have hyl := y.len_list
      have Ha := Lib.hid hd.ars
      have Hbl := Lib.hid hd.below
      have Rx := Lib.hid (fun W (hb : Below W0.heap.size W0 W) k (hk : x.high ≤ k) => show Rdt K p s L w k k0 x W from ⟨hd.ars.below hb, hd.below.trans (hb.mono hd.below.size), r0, f0, hd.solid.1, by omega, hk⟩)
      have Ry := Lib.hid (fun W (hb : Below W0.heap.size W0 W) k (hk : y.high ≤ k) => show Rdt K p s L w k k1 y W from ⟨hd.ars.below hb, hd.below.trans (hb.mono hd.below.size), r1, f1, hd.solid.2, by omega, hk⟩)
      clear hd hv hv0 vl0 vo0 Hd r0 r1 f0 f1 el eh hlen
      go_wp2_with fail
      refine H.out.mono ?_
      rintro o w1 ⟨rfl, ha1, hk1⟩
      have B1 := Lib.hid (hk1.alloc hk1.size (.cells #[.int .i64 2, .int .i64 k0, .int .i64 k1, .int .i64 0, .int .i64 0, .int .u64 m, .int .u64 o] 44))
      have hx := heap_alloc_new w1 (.cells #[.int .i64 2, .int .i64 k0, .int .i64 k1, .int .i64 0, .int .i64 0, .int .u64 m, .int .u64 o] 44)
      have A1 := Lib.hid (ha1.alloc (.cells #[.int .i64 2, .int .i64 k0, .int .i64 k1, .int .i64 0, .int .i64 0, .int .u64 m, .int .u64 o] 44))
      clear ha1 hk1 H
      go_wp2_with fail
      generalize w1.alloc (.cells #[.int .i64 2, .int .i64 k0, .int .i64 k1, .int .i64 0, .int .i64 0, .int .u64 m, .int .u64 o] 44) = w2 at *
      generalize w1.heap.size = z at *
      refine (HL _ A1.out).out.mono ?_
      rintro o w3 ⟨rfl, ha3, hk3⟩
      have B3 := Lib.hid (B1.out.trans (hk3.mono B1.out.size))
      have Hx3 := Lib.hid ((hk3.block z (lt_heap hx)).trans hx)
      have y2 : w3.cell? ⟨z, 2, none⟩ = some (.int .i64 k1) := cell_of_row _ _ _ _ _ _ Hx3.out
      have A3 := Lib.hid ha3
      clear ha3 hk3 hx B1 A1
      by_cases hil : x.len < i'
      · have hil' : (x.len : Int) < (i' : Int) := by omega
        have e1 : ((i' - x.len : Nat) : Int) = (i' : Int) - (x.len : Int) := by omega
        have hat2 : (ac + x.ones) + (y.list.take (i' - x.len)).count true = goal := by
          rw [← Hat.out, List.take_append, List.take_of_length_le (l := x.list) (i := i') (by omega), List.count_append, hxo, hxl]; omega
        have e2 : ((ac + x.ones : Nat) : Int) = (ac : Int) + (x.ones : Int) := by omega
        have E1 := Lib.hid e1
        have E2 := Lib.hid e2
        have H2 := Lib.hid hat2
        clear e1 hat2 hil hxo hxl hyl hgl e2
        go_wp2_with fail
        refine (HO _ A3.out).out.mono ?_
        rintro o w4 ⟨rfl, ha4, hk4⟩
        have B4 := Lib.hid (B3.out.trans (hk4.mono B3.out.size))
        have y3 : w4.cell? ⟨z, 2, none⟩ = some (.int .i64 k1) := cell_of_row _ _ _ _ _ _ ((hk4.block z (lt_heap Hx3.out)).trans Hx3.out)
        clear ha4 hk4 y2
        go_wp2_with fail
        go_step3
        exact ⟨rfl, gk - 1, by omega, k1, i' - x.len, ac + x.ones, y, _, _, _, _, _, _, _, _, _, _, _, _, _, _, _, _, _, _, _, _, _, _, _, _, _, _, _, _, _, _, _, _, _, _, _, _, _, _, _, _, _, _, _, _, _, _, _, _, _, by rw [E1.out, E2.out], Ry.out _ B4.out _ (by omega), by omega, H2.out⟩
      · have hil' : (i' : Int) ≤ (x.len : Int) := by omega
        have hat2 : ac + (x.list.take i').count true = goal := by
          rw [← Hat.out, List.take_append_of_le_length (by omega)]
        have H2 := Lib.hid hat2
        clear hat2 hil hxo hxl hyl hgl
        go_wp2_with fail
        go_step3
        exact ⟨rfl, gk - 1, by omega, k0, i', ac, x, _, _, _, _, _, _, _, _, _, _, _, _, _, _, _, _, _, _, _, _, _, _, _, _, _, _, _, _, _, _, _, _, _, _, _, _, _, _, _, _, _, _, _, _, _, _, _, _, _, rfl, Rx.out _ B3.out _ (by omega), by omega, H2.out⟩
end
end Go.Proofs.Ytjfeocoengheaaa
