/- Package bits: a bit; how many of the first ones are 1; the place of one of those that are alike. -/
import Derived.Test.YtjfeocoengheaaaBw12
import Derived.Deep.LoopGhost
namespace Go.Proofs.Ytjfeocoengheaaa
set_option maxRecDepth 100000
open Go.RowKit

open Classical in
/-- A scope whose label is jumped to; the relation bears a number that gets less. -/
theorem wp_scope_ghost {P : Program} {a : Act} {w : World} {Q : Exit → Act → World → Prop} {c rest : Code} (l : Nat) (J : Nat → Act → World → Prop) (hf : findLabel c l = some (Code.skip.seq rest))
    (pass : ∀ k a w, J k a w → rest.wp P (Exit.jump l (fun a' w' => ∃ k', k' < k ∧ J k' a' w') Q) a w)
    (first : Hid (∀ k a w, J k a w → rest.wp P (Exit.jump l (fun a w => ∃ k, J k a w) Q) a w) → c.wp P (Exit.jump l (fun a w => ∃ k, J k a w) Q) a w) : (Code.scope c).wp P Q a w := by
  have least : ∀ a w, (∃ k, J k a w) → ∃ k, J k a w ∧ ∀ m, J m a w → k ≤ m := fun a w h => exists_least h
  refine wp_scope_label l (fun a w => ∃ k, J k a w) (fun a w => if h : ∃ k, J k a w then (least a w h).choose else 0) hf (fun a w h => ?_) fun hp => first (Lib.hid fun k a w h => wp_mono (pass k a w h) fun e a' w' q => by
    cases e with
    | goto l' => obtain ⟨e, k', _, hj⟩ := q; exact ⟨e, k', hj⟩
    | _ => exact q)
  have hk := (least a w h).choose_spec
  refine wp_mono (pass _ a w hk.1) fun e a' w' q => ?_
  cases e with
  | goto l' =>
    obtain ⟨e, k', hlt, hj⟩ := q
    refine ⟨e, ⟨k', hj⟩, ?_⟩
    show (if h : ∃ k, J k a' w' then (least a' w' h).choose else 0) < (if h : ∃ k, J k a w then (least a w h).choose else 0)
    rw [dif_pos ⟨k', hj⟩, dif_pos h]
    have := (least a' w' ⟨k', hj⟩).choose_spec.2 k' hj
    omega
  | _ => exact q
/-- With no empty row inside. -/
def BT.Solid : BT → Prop
  | .nil => False
  | .leaf l => l.length ≤ 64
  | .fork a b => a.Solid ∧ b.Solid
theorem BT.Full.solid : ∀ {t : BT}, t.Full → t.Solid
  | .leaf _, h => h.2
  | .fork _ _, h => ⟨BT.Full.solid h.1, BT.Full.solid h.2.1⟩
theorem BT.Fine.solid {t : BT} (h : t.Fine) (n : t.isNil = false) : t.Solid := by
  rcases h with rfl | ⟨l, rfl, _, h⟩ | h
  · cases n
  · exact h
  · exact h.solid
/-- A row that is read. -/
structure Rdt (K : Nat → Prop) (p : Nat) (s : Ar) (L : List Int) (w : World) (k : Nat) (h : Int) (t : BT) (W : World) : Prop where
  ars : Ars W K p s
  below : Below w.heap.size w W
  rep : BRep s h t
  firm : BFirm s L h
  solid : t.Solid
  len : t.len ≤ 400000
  high : t.high ≤ k
theorem Rdt.kids {K : Nat → Prop} {p : Nat} {s : Ar} {L : List Int} {w W : World} {k : Nat} {h : Int} {a b : BT} (r : Rdt K p s L w k h (.fork a b) W) (g : Gd s L) : ∃ k0 k1, Vw s h (.fork k0 k1 (a.len + b.len) (a.ones + b.ones)) ∧ BRep s k0 a ∧ BRep s k1 b ∧ BFirm s L k0 ∧ BFirm s L k1 :=
  vw_fork r.rep (r.firm.live g r.rep r.rep.1) (by have := r.len; have e : (BT.fork a b).len = a.len + b.len := rfl; omega)
theorem Rdt.leaf {K : Nat → Prop} {p : Nat} {s : Ar} {L : List Int} {w W : World} {k : Nat} {h : Int} {l : List Bool} (r : Rdt K p s L w k h (.leaf l) W) (g : Gd s L) : Vw s h (.leaf l) := vw_leaf r.rep (r.firm.live g r.rep r.rep.1)
section
variable {K : Nat → Prop} {p : Nat} {s : Ar} {L : List Int} {w : World}
def GetJ (K : Nat → Prop) (p : Nat) (s : Ar) (L : List Int) (w : World) (goal : Bool) (k : Nat) (a : Act) (W : World) : Prop :=
  ∃ (h : Int) (i : Nat) (t : BT) (u3 u4 u5 u8 u9 u10 u11 u12 u13 u14 u15 u16 u17 u18 u19 u20 u21 u22 u23 u24 u25 u26 u27 u28 u29 u30 u31 u32 u33 u34 u35 u36 u37 u38 u39 u40 u41 u42 u43 u44 u45 u46 u47 : Value), a = { tmps := #[.pointer (some ⟨p, 0, none⟩), .int .i64 h, .int .i64 i, u3, u4, u5, .bool false, .bool false, u8, u9, u10, u11, u12, u13, u14, u15, u16, u17, u18, u19, u20, u21, u22, u23, u24, u25, u26, u27, u28, u29, u30, u31, u32, u33, u34, u35, u36, u37, u38, u39, u40, u41, u42, u43, u44, u45, u46, u47], defers := [] } ∧ Rdt K p s L w k h t W ∧ i < t.len ∧ t.list.getD i false = goal
set_option maxRecDepth 100000 in
set_option maxHeartbeats 8000000 in
theorem bget_is {h : Int} {t : BT} {i : Nat} (g : Gd s L) (sn : Snd s) (hr : Rdt K p s L w t.high h t w) (hi : i < t.len) :
    Calls Try.prog 15 #[.pointer (some ⟨p, 0, none⟩), .int .i64 h, .int .i64 i] w fun e w' => e = .returned (.tuple #[.bool (t.list.getD i false), .bool true]) ∧ Ars w' K p s ∧ Below w.heap.size w w' := by
  obtain ⟨v, hv, vl, _, _⟩ := vw_any hr.rep g hr.firm (by have := hr.len; omega)
  have HL := blen_is hv hr.ars sn.fit
  rw [vl] at HL
  have H0 := Lib.hid HL
  have R0 := Lib.hid (fun W (hb : Below w.heap.size w W) => show Rdt K p s L w t.high h t W from ⟨hr.ars.below hb, hb, hr.rep, hr.firm, hr.solid, hr.len, hr.high⟩)
  have hi1 : (i : Int) < (t.len : Int) := by omega
  have hi2 : (t.len : Int) ≤ 400000 := by have := hr.len; omega
  have Hi := Lib.hid hi
  have G := Lib.hid g
  have SN := Lib.hid sn
  clear HL hv vl g sn hr hi
  generalize hgoal : t.list.getD i false = goal
  have Hgoal := Lib.hid hgoal
  clear hgoal
  go_enter Try.func15, Try.ntmps15
  go_wp2_with fail
  refine wp_scope_ghost 0 (GetJ K p s L w goal) rfl ?pass ?first
  case first =>
    intro hp
    go_wp2_with fail
    refine H0.out.mono ?_
    rintro o w1 ⟨rfl, ha1, hk1⟩
    go_wp2_with fail
    go_step3
    rename_i K hK
    exact hK _ _ (hp.out _ _ _ ⟨h, i, t, _, _, _, _, _, _, _, _, _, _, _, _, _, _, _, _, _, _, _, _, _, _, _, _, _, _, _, _, _, _, _, _, _, _, _, _, _, _, _, _, _, _, _, rfl, R0.out _ hk1, Hi.out, Hgoal.out⟩)
  case pass =>
    clear H0 R0 hi1 hi2 Hi Hgoal
    rintro gk a' W0 ⟨h', i', t', u3, u4, u5, u8, u9, u10, u11, u12, u13, u14, u15, u16, u17, u18, u19, u20, u21, u22, u23, u24, u25, u26, u27, u28, u29, u30, u31, u32, u33, u34, u35, u36, u37, u38, u39, u40, u41, u42, u43, u44, u45, u46, u47, rfl, hd, hlt, hat⟩
    have Hd := Lib.hid hd
    have Ht := Lib.hid (And.intro hlt hat)
    clear hlt hat
    cases t' with
    | nil => exact hd.solid.elim
    | leaf l =>
      have hv := hd.leaf G.out
      have H := Lib.hid (row_leaf hv hd.ars SN.out.fit)
      have hl64 := hv.2.2
      have hlt : i' < l.length := Ht.out.1
      have hat : l.getD i' false = goal := Ht.out.2
      have HB := fun w => Lib.hid (bbits_is l w hl64)
      have HG := fun w => lget_is l i' w hl64 hlt
      rw [hat] at HG
      replace HG := fun w => Lib.hid (HG w)
      have Ha := Lib.hid hd.ars
      have Hbl := Lib.hid hd.below
      clear hd hv hl64 hlt hat Hd Ht
      go_wp2_with fail
      refine H.out.mono ?_
      rintro o w1 ⟨rfl, ha1, hk1⟩
      have B1 := Lib.hid (hk1.alloc hk1.size (.cells #[.int .i64 1, .int .i64 0, .int .i64 0, .int .i64 0, .int .i64 0, .int .u64 (bN l), .int .u64 l.length] 44))
      clear ha1 hk1 H
      go_wp2_with fail
      refine (HB _).out.mono ?_
      rintro o w2 ⟨rfl, hk2⟩
      have B2 := Lib.hid (B1.out.trans (hk2.mono B1.out.size))
      clear hk2 B1 HB
      go_wp2_with fail
      refine (HG _).out.mono ?_
      rintro o w3 ⟨rfl, hk3⟩
      have B3 := Lib.hid (B2.out.trans (hk3.mono B2.out.size))
      clear hk3 B2
      go_wp2_with fail
      simp only [Exit.jump]
      go_ret2
      exact ⟨rfl, Ha.out.below B3.out, Hbl.out.trans (B3.out.mono Hbl.out.size)⟩
    | fork x y =>
      obtain ⟨k0, k1, hv, r0, r1, f0, f1⟩ := hd.kids G.out
      obtain ⟨m, o, hv⟩ : ∃ m o, Vw s h' (.fork k0 k1 m o) := ⟨_, _, hv⟩
      obtain ⟨v0, hv0, vl0, _, _⟩ := vw_any r0 G.out f0 (by have := hd.len; have e : (BT.fork x y).len = x.len + y.len := rfl; omega)
      have H := Lib.hid (row_fork hv hd.ars SN.out.fit)
      have HL := fun W (ha : Ars W K p s) => blen_is hv0 ha SN.out.fit
      rw [vl0] at HL
      replace HL := fun W ha => Lib.hid (HL W ha)
      have hlen := hd.len
      have hhigh := hd.high
      have el : (BT.fork x y).len = x.len + y.len := rfl
      have eh : (BT.fork x y).high = 1 + max x.high y.high := rfl
      rw [el] at hlen
      rw [eh] at hhigh
      have hl2 : (x.len : Int) ≤ 400000 := by omega
      have hlt : i' < x.len + y.len := Ht.out.1
      have hat : (x.list ++ y.list).getD i' false = goal := Ht.out.2
      have hi3 : (i' : Int) ≤ 400000 := by omega
      have hxl := x.len_list
      have Ha := Lib.hid hd.ars
      have Hbl := Lib.hid hd.below
      have Hat := Lib.hid hat
      have Rx := Lib.hid (fun W (hb : Below W0.heap.size W0 W) k (hk : x.high ≤ k) => show Rdt K p s L w k k0 x W from ⟨hd.ars.below hb, hd.below.trans (hb.mono hd.below.size), r0, f0, hd.solid.1, by omega, hk⟩)
      have Ry := Lib.hid (fun W (hb : Below W0.heap.size W0 W) k (hk : y.high ≤ k) => show Rdt K p s L w k k1 y W from ⟨hd.ars.below hb, hd.below.trans (hb.mono hd.below.size), r1, f1, hd.solid.2, by omega, hk⟩)
      clear hd hv hv0 vl0 Hd Ht r0 r1 f0 f1 hat el eh hlen
      go_wp2_with fail
      refine H.out.mono ?_
      rintro o w1 ⟨rfl, ha1, hk1⟩
      have B1 := Lib.hid (hk1.alloc hk1.size (.cells #[.int .i64 2, .int .i64 k0, .int .i64 k1, .int .i64 0, .int .i64 0, .int .u64 m, .int .u64 o] 44))
      have hx := heap_alloc_new w1 (.cells #[.int .i64 2, .int .i64 k0, .int .i64 k1, .int .i64 0, .int .i64 0, .int .u64 m, .int .u64 o] 44)
      have A1 := Lib.hid (ha1.alloc (.cells #[.int .i64 2, .int .i64 k0, .int .i64 k1, .int .i64 0, .int .i64 0, .int .u64 m, .int .u64 o] 44))
      clear ha1 hk1 H
      go_wp2_with fail
      generalize w1.alloc (.cells #[.int .i64 2, .int .i64 k0, .int .i64 k1, .int .i64 0, .int .i64 0, .int .u64 m, .int .u64 o] 44) = w2 at *
      generalize w1.heap.size = z at *
      refine (HL _ A1.out).out.mono ?_
      rintro o w3 ⟨rfl, ha3, hk3⟩
      have B3 := Lib.hid (B1.out.trans (hk3.mono B1.out.size))
      have y2 : w3.cell? ⟨z, 2, none⟩ = some (.int .i64 k1) := (hk3.cell (p := ⟨z, 2, none⟩) (lt_heap hx)).trans (cell_of_row _ _ _ _ _ _ hx)
      clear ha3 hk3 hx B1 A1 HL
      by_cases hil : x.len ≤ i'
      · have hil' : (x.len : Int) ≤ (i' : Int) := by omega
        have e1 : ((i' - x.len : Nat) : Int) = (i' : Int) - (x.len : Int) := by omega
        have hat2 : y.list.getD (i' - x.len) false = goal := by
          rw [← Hat.out, ← hxl]
          simp only [List.getD_eq_getElem?_getD]
          rw [List.getElem?_append_right (by omega)]
        have E1 := Lib.hid e1
        have H2 := Lib.hid hat2
        clear e1 hat2 hil
        go_wp2_with fail
        go_step3
        exact ⟨rfl, gk - 1, by omega, k1, i' - x.len, y, _, _, _, _, _, _, _, _, _, _, _, _, _, _, _, _, _, _, _, _, _, _, _, _, _, _, _, _, _, _, _, _, _, _, _, _, _, _, _, _, _, _, _, by rw [E1.out], Ry.out _ B3.out _ (by omega), by omega, H2.out⟩
      · have hil' : (i' : Int) < (x.len : Int) := by omega
        have hat2 : x.list.getD i' false = goal := by
          rw [← Hat.out]
          simp only [List.getD_eq_getElem?_getD]
          rw [List.getElem?_append_left (by omega)]
        have H2 := Lib.hid hat2
        clear hat2 hil
        go_wp2_with fail
        go_step3
        exact ⟨rfl, gk - 1, by omega, k0, i', x, _, _, _, _, _, _, _, _, _, _, _, _, _, _, _, _, _, _, _, _, _, _, _, _, _, _, _, _, _, _, _, _, _, _, _, _, _, _, _, _, _, _, _, rfl, Rx.out _ B3.out _ (by omega), by omega, H2.out⟩
end
end Go.Proofs.Ytjfeocoengheaaa
