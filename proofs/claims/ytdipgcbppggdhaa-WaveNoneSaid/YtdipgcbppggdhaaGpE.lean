/- A tree of package bits that makes nodes: a row that is built. -/
import Derived.Test.YtdipgcbppggdhaaBw10
import Derived.Test.YtdipgcbppggdhaaGpB
import Derived.Deep.LoopGhost
namespace Go.Proofs.Ytdipgcbppggdhaa
set_option maxRecDepth 100000
open Go.RowKit

end Go.Proofs.Ytdipgcbppggdhaa
namespace Go.Proofs.Ytdipgcbppggdhaa
set_option maxRecDepth 100000
open Go.RowKit

section
variable {K : Nat → Prop} {q p : Nat} {s s' : Ar} {e e' r h : Int} {w : World}
set_option maxHeartbeats 1000000 in
theorem btold_ok (ha : BTre w K q p s 0) :
    Calls Try.prog 61 #[.pointer (some ⟨q, 0, none⟩), .int .i64 h] w fun o w' => o = .returned (.tuple #[.int .i64 h, .int .i64 0]) ∧ BTre w' K q p s 0 ∧ Kept K w w' := by
  have c1 := ha.c1
  have Ha := Lib.hid ha
  clear ha
  go_enter Try.func61, Try.ntmps61
  go_wp2_with fail
  go_ret2
  exact ⟨rfl, Ha.out, Kept.refl _ _⟩
set_option maxHeartbeats 1000000 in
theorem btold_no (he : e ≠ 0) (ha : BTre w K q p s e) :
    Calls Try.prog 61 #[.pointer (some ⟨q, 0, none⟩), .int .i64 h] w fun o w' => o = .returned (.tuple #[.int .i64 0, .int .i64 e]) ∧ BTre w' K q p s e ∧ Kept K w w' := by
  have c1 := ha.c1
  have ge : (e == 0) = false := by simpa using he
  have Ha := Lib.hid ha
  clear ha he
  go_enter Try.func61, Try.ntmps61
  go_wp2_with fail
  go_quiet (fail)
  go_wp2_with fail
  go_ret2
  exact ⟨rfl, Ha.out.drewN _, (Kept.refl _ _).drewN _⟩
theorem btold_is (hz : e ≠ 0 → h = 0) (ha : BTre w K q p s e) :
    Calls Try.prog 61 #[.pointer (some ⟨q, 0, none⟩), .int .i64 h] w fun o w' => o = .returned (.tuple #[.int .i64 h, .int .i64 e]) ∧ BTre w' K q p s e ∧ Kept K w w' := by
  by_cases c : e = 0
  · subst c; exact btold_ok ha
  · rw [hz c]; exact btold_no c ha
/-- A tree of its own. -/
theorem btree_new (ha : Ars w K p s) : BTre (w.alloc (.cells #[.pointer (some ⟨p, 0, none⟩), .int .i64 0] 84)) K w.heap.size p s 0 :=
  ⟨heap_alloc_new _ _, fun hk => by have := ha.lt _ hk; omega, ha.allocK _⟩
theorem btree_end (ha : BTre w K q p s e) : Ars w K p s := ha.ars.more fun _ h => .inl h
set_option maxHeartbeats 2000000 in
theorem bInsert_walk {one : Bool} {i : Nat} {v : View} (H : Ins one s 0 h i s' e' r) (hz : e' ≠ 0 → r = 0) (hv : Vw s h v) (hi : i ≤ v.len) (sn : Snd s) (ha : Ars w K p s) :
    Calls Try.prog 50 #[.pointer (some ⟨p, 0, none⟩), .int .i64 h, .int .i64 i, .bool one] w fun o w' => o = .returned (.tuple #[.int .i64 r, .int .i64 e']) ∧ Ars w' K p s' ∧ Kept K w w' := by
  have HL := Lib.hid (blen_is hv ha sn.fit)
  have hb := hv.big.1
  have HI := fun q w ha => Lib.hid (bins_is (q := q) (p := p) H K w ha)
  have HT := fun q w ha => Lib.hid (btold_is (w := w) (K := K) (q := q) (p := p) (s := s') hz ha)
  have hi1 : (i : Int) ≤ (v.len : Int) := by omega
  have hi2 : (v.len : Int) ≤ 1000000 := by omega
  clear H hz hv hi sn ha hb
  generalize v.len = n at *
  go_enter Try.func50, Try.ntmps50
  go_wp2_with fail
  refine HL.out.mono ?_
  rintro o w1 ⟨rfl, ha1, hk1⟩
  have T1 := Lib.hid (btree_new ha1)
  have K1 := Lib.hid ((Kept.of_below hk1 K).alloc (.cells #[.pointer (some ⟨p, 0, none⟩), .int .i64 0] 84))
  clear ha1 hk1 HL
  go_wp2_with fail
  refine (HI _ _ T1.out).out.mono ?_
  rintro o w2 ⟨rfl, h2, k2⟩
  have T2 := Lib.hid h2
  have K2 := Lib.hid (K1.out.trans k2)
  clear h2 k2
  go_wp2_with fail
  refine (HT _ _ T2.out).out.mono ?_
  rintro o w3 ⟨rfl, h3, k3⟩
  go_wp2_with fail
  go_ret2
  exact ⟨rfl, btree_end h3, K2.out.trans k3⟩
set_option maxHeartbeats 2000000 in
theorem bInsert_no {one : Bool} {i : Int} {v : View} (hv : Vw s h v) (hi : i < 0 ∨ (v.len : Int) < i) (sn : s.Fit) (ha : Ars w K p s) :
    Calls Try.prog 50 #[.pointer (some ⟨p, 0, none⟩), .int .i64 h, .int .i64 i, .bool one] w fun o w' => o = .returned (.tuple #[.int .i64 0, .int .i64 3]) ∧ Ars w' K p s ∧ Below w.heap.size w w' := by
  have HL := Lib.hid (blen_is hv ha sn)
  have hb := hv.big.1
  have Ha := Lib.hid ha
  have hi2 : (v.len : Int) ≤ 1000000 := by omega
  clear hv sn ha hb
  generalize v.len = n at *
  by_cases c : i < 0
  · clear hi
    go_enter Try.func50, Try.ntmps50
    go_wp2_with fail
    go_ret2
    exact ⟨rfl, Ha.out, Below.refl _ _⟩
  · have c' : 0 ≤ i := by omega
    have d : (n : Int) < i := by omega
    clear hi c
    go_enter Try.func50, Try.ntmps50
    go_wp2_with fail
    refine HL.out.mono ?_
    rintro o w1 ⟨rfl, ha1, hk1⟩
    go_wp2_with fail
    go_ret2
    exact ⟨rfl, ha1, hk1⟩
end
end Go.Proofs.Ytdipgcbppggdhaa
namespace Go.Proofs.Ytdipgcbppggdhaa
set_option maxRecDepth 100000
open Go.RowKit

open Classical in
/-- A scope whose label is jumped to; the relation bears a number that gets less. -/
theorem wp_scope_ghost {P : Program} {a : Act} {w : World} {Q : Exit → Act → World → Prop} {c rest : Code} (l : Nat) (J : Nat → Act → World → Prop) (hf : findLabel c l = some (Code.skip.seq rest))
    (pass : ∀ k a w, J k a w → rest.wp P (Exit.jump l (fun a' w' => ∃ k', k' < k ∧ J k' a' w') Q) a w)
    (first : Hid (∀ k a w, J k a w → rest.wp P (Exit.jump l (fun a w => ∃ k, J k a w) Q) a w) → c.wp P (Exit.jump l (fun a w => ∃ k, J k a w) Q) a w) : (Code.scope c).wp P Q a w := by
  have least : ∀ a w, (∃ k, J k a w) → ∃ k, J k a w ∧ ∀ m, J m a w → k ≤ m := fun a w h => exists_least h
  refine wp_scope_label l (fun a w => ∃ k, J k a w) (fun a w => if h : ∃ k, J k a w then (least a w h).choose else 0) hf (fun a w h => ?_) fun hp => first (Lib.hid fun k a w h => wp_mono (pass k a w h) fun e a' w' q => by
    cases e with
    | goto l' => obtain ⟨e, k', _, hj⟩ := q; exact ⟨e, k', hj⟩
    | _ => exact q)
  have hk := (least a w h).choose_spec
  refine wp_mono (pass _ a w hk.1) fun e a' w' q => ?_
  cases e with
  | goto l' =>
    obtain ⟨e, k', hlt, hj⟩ := q
    refine ⟨e, ⟨k', hj⟩, ?_⟩
    show (if h : ∃ k, J k a' w' then (least a' w' h).choose else 0) < (if h : ∃ k, J k a w then (least a w h).choose else 0)
    rw [dif_pos ⟨k', hj⟩, dif_pos h]
    have := (least a' w' ⟨k', hj⟩).choose_spec.2 k' hj
    omega
  | _ => exact q
/-- With no empty row inside. -/
def BT.Solid : BT → Prop
  | .nil => False
  | .leaf l => l.length ≤ 64
  | .fork a b => a.Solid ∧ b.Solid
theorem BT.Full.solid : ∀ {t : BT}, t.Full → t.Solid
  | .leaf _, h => h.2
  | .fork _ _, h => ⟨BT.Full.solid h.1, BT.Full.solid h.2.1⟩
theorem BT.Fine.solid {t : BT} (h : t.Fine) (n : t.isNil = false) : t.Solid := by
  rcases h with rfl | ⟨l, rfl, _, h⟩ | h
  · cases n
  · exact h
  · exact h.solid
/-- A row that is read. -/
structure Rdt (K : Nat → Prop) (p : Nat) (s : Ar) (L : List Int) (w : World) (k : Nat) (h : Int) (t : BT) (W : World) : Prop where
  ars : Ars W K p s
  below : Below w.heap.size w W
  rep : BRep s h t
  firm : BFirm s L h
  solid : t.Solid
  len : t.len ≤ 400000
  high : t.high ≤ k
theorem Rdt.kids {K : Nat → Prop} {p : Nat} {s : Ar} {L : List Int} {w W : World} {k : Nat} {h : Int} {a b : BT} (r : Rdt K p s L w k h (.fork a b) W) (g : Gd s L) : ∃ k0 k1, Vw s h (.fork k0 k1 (a.len + b.len) (a.ones + b.ones)) ∧ BRep s k0 a ∧ BRep s k1 b ∧ BFirm s L k0 ∧ BFirm s L k1 :=
  vw_fork r.rep (r.firm.live g r.rep r.rep.1) (by have := r.len; have e : (BT.fork a b).len = a.len + b.len := rfl; omega)
theorem Rdt.leaf {K : Nat → Prop} {p : Nat} {s : Ar} {L : List Int} {w W : World} {k : Nat} {h : Int} {l : List Bool} (r : Rdt K p s L w k h (.leaf l) W) (g : Gd s L) : Vw s h (.leaf l) := vw_leaf r.rep (r.firm.live g r.rep r.rep.1)
section
variable {K : Nat → Prop} {p : Nat} {s : Ar} {L : List Int} {w : World}
def GetJ (K : Nat → Prop) (p : Nat) (s : Ar) (L : List Int) (w : World) (goal : Bool) (k : Nat) (a : Act) (W : World) : Prop :=
  ∃ (h : Int) (i : Nat) (t : BT) (u3 u4 u5 u8 u9 u10 u11 u12 u13 u14 u15 u16 u17 u18 u19 u20 u21 u22 u23 u24 u25 u26 u27 u28 u29 u30 u31 u32 u33 u34 u35 u36 u37 u38 u39 u40 u41 u42 u43 u44 u45 u46 u47 : Value), a = { tmps := #[.pointer (some ⟨p, 0, none⟩), .int .i64 h, .int .i64 i, u3, u4, u5, .bool false, .bool false, u8, u9, u10, u11, u12, u13, u14, u15, u16, u17, u18, u19, u20, u21, u22, u23, u24, u25, u26, u27, u28, u29, u30, u31, u32, u33, u34, u35, u36, u37, u38, u39, u40, u41, u42, u43, u44, u45, u46, u47], defers := [] } ∧ Rdt K p s L w k h t W ∧ i < t.len ∧ t.list.getD i false = goal
set_option maxRecDepth 100000 in
set_option maxHeartbeats 8000000 in
theorem bget_is {h : Int} {t : BT} {i : Nat} (g : Gd s L) (sn : Snd s) (hr : Rdt K p s L w t.high h t w) (hi : i < t.len) :
    Calls Try.prog 35 #[.pointer (some ⟨p, 0, none⟩), .int .i64 h, .int .i64 i] w fun e w' => e = .returned (.tuple #[.bool (t.list.getD i false), .bool true]) ∧ Ars w' K p s ∧ Below w.heap.size w w' := by
  obtain ⟨v, hv, vl, _, _⟩ := vw_any hr.rep g hr.firm (by have := hr.len; omega)
  have HL := blen_is hv hr.ars sn.fit
  rw [vl] at HL
  have H0 := Lib.hid HL
  have R0 := Lib.hid (fun W (hb : Below w.heap.size w W) => show Rdt K p s L w t.high h t W from ⟨hr.ars.below hb, hb, hr.rep, hr.firm, hr.solid, hr.len, hr.high⟩)
  have hi1 : (i : Int) < (t.len : Int) := by omega
  have hi2 : (t.len : Int) ≤ 400000 := by have := hr.len; omega
  have Hi := Lib.hid hi
  have G := Lib.hid g
  have SN := Lib.hid sn
  clear HL hv vl g sn hr hi
  generalize hgoal : t.list.getD i false = goal
  have Hgoal := Lib.hid hgoal
  clear hgoal
  go_enter Try.func35, Try.ntmps35
  go_wp2_with fail
  refine wp_scope_ghost 0 (GetJ K p s L w goal) rfl ?pass ?first
  case first =>
    intro hp
    go_wp2_with fail
    refine H0.out.mono ?_
    rintro o w1 ⟨rfl, ha1, hk1⟩
    go_wp2_with fail
    go_step3
    rename_i K hK
    exact hK _ _ (hp.out _ _ _ ⟨h, i, t, _, _, _, _, _, _, _, _, _, _, _, _, _, _, _, _, _, _, _, _, _, _, _, _, _, _, _, _, _, _, _, _, _, _, _, _, _, _, _, _, _, _, _, rfl, R0.out _ hk1, Hi.out, Hgoal.out⟩)
  case pass =>
    clear H0 R0 hi1 hi2 Hi Hgoal
    rintro gk a' W0 ⟨h', i', t', u3, u4, u5, u8, u9, u10, u11, u12, u13, u14, u15, u16, u17, u18, u19, u20, u21, u22, u23, u24, u25, u26, u27, u28, u29, u30, u31, u32, u33, u34, u35, u36, u37, u38, u39, u40, u41, u42, u43, u44, u45, u46, u47, rfl, hd, hlt, hat⟩
    have Hd := Lib.hid hd
    have Ht := Lib.hid (And.intro hlt hat)
    clear hlt hat
    cases t' with
    | nil => exact hd.solid.elim
    | leaf l =>
      have hv := hd.leaf G.out
      have H := Lib.hid (row_leaf hv hd.ars SN.out.fit)
      have hl64 := hv.2.2
      have hlt : i' < l.length := Ht.out.1
      have hat : l.getD i' false = goal := Ht.out.2
      have HB := fun w => Lib.hid (bbits_is l w hl64)
      have HG := fun w => lget_is l i' w hl64 hlt
      rw [hat] at HG
      replace HG := fun w => Lib.hid (HG w)
      have Ha := Lib.hid hd.ars
      have Hbl := Lib.hid hd.below
      clear hd hv hl64 hlt hat Hd Ht
      go_wp2_with fail
      refine H.out.mono ?_
      rintro o w1 ⟨rfl, ha1, hk1⟩
      have B1 := Lib.hid (hk1.alloc hk1.size (.cells #[.int .i64 1, .int .i64 0, .int .i64 0, .int .i64 0, .int .i64 0, .int .u64 (bN l), .int .u64 l.length] 47))
      clear ha1 hk1 H
      go_wp2_with fail
      refine (HB _).out.mono ?_
      rintro o w2 ⟨rfl, hk2⟩
      have B2 := Lib.hid (B1.out.trans (hk2.mono B1.out.size))
      clear hk2 B1 HB
      go_wp2_with fail
      refine (HG _).out.mono ?_
      rintro o w3 ⟨rfl, hk3⟩
      have B3 := Lib.hid (B2.out.trans (hk3.mono B2.out.size))
      clear hk3 B2
      go_wp2_with fail
      simp only [Exit.jump]
      go_ret2
      exact ⟨rfl, Ha.out.below B3.out, Hbl.out.trans (B3.out.mono Hbl.out.size)⟩
    | fork x y =>
      obtain ⟨k0, k1, hv, r0, r1, f0, f1⟩ := hd.kids G.out
      obtain ⟨m, o, hv⟩ : ∃ m o, Vw s h' (.fork k0 k1 m o) := ⟨_, _, hv⟩
      obtain ⟨v0, hv0, vl0, _, _⟩ := vw_any r0 G.out f0 (by have := hd.len; have e : (BT.fork x y).len = x.len + y.len := rfl; omega)
      have H := Lib.hid (row_fork hv hd.ars SN.out.fit)
      have HL := fun W (ha : Ars W K p s) => blen_is hv0 ha SN.out.fit
      rw [vl0] at HL
      replace HL := fun W ha => Lib.hid (HL W ha)
      have hlen := hd.len
      have hhigh := hd.high
      have el : (BT.fork x y).len = x.len + y.len := rfl
      have eh : (BT.fork x y).high = 1 + max x.high y.high := rfl
      rw [el] at hlen
      rw [eh] at hhigh
      have hl2 : (x.len : Int) ≤ 400000 := by omega
      have hlt : i' < x.len + y.len := Ht.out.1
      have hat : (x.list ++ y.list).getD i' false = goal := Ht.out.2
      have hi3 : (i' : Int) ≤ 400000 := by omega
      have hxl := x.len_list
      have Ha := Lib.hid hd.ars
      have Hbl := Lib.hid hd.below
      have Hat := Lib.hid hat
      have Rx := Lib.hid (fun W (hb : Below W0.heap.size W0 W) k (hk : x.high ≤ k) => show Rdt K p s L w k k0 x W from ⟨hd.ars.below hb, hd.below.trans (hb.mono hd.below.size), r0, f0, hd.solid.1, by omega, hk⟩)
      have Ry := Lib.hid (fun W (hb : Below W0.heap.size W0 W) k (hk : y.high ≤ k) => show Rdt K p s L w k k1 y W from ⟨hd.ars.below hb, hd.below.trans (hb.mono hd.below.size), r1, f1, hd.solid.2, by omega, hk⟩)
      clear hd hv hv0 vl0 Hd Ht r0 r1 f0 f1 hat el eh hlen
      go_wp2_with fail
      refine H.out.mono ?_
      rintro o w1 ⟨rfl, ha1, hk1⟩
      have B1 := Lib.hid (hk1.alloc hk1.size (.cells #[.int .i64 2, .int .i64 k0, .int .i64 k1, .int .i64 0, .int .i64 0, .int .u64 m, .int .u64 o] 47))
      have hx := heap_alloc_new w1 (.cells #[.int .i64 2, .int .i64 k0, .int .i64 k1, .int .i64 0, .int .i64 0, .int .u64 m, .int .u64 o] 47)
      have A1 := Lib.hid (ha1.alloc (.cells #[.int .i64 2, .int .i64 k0, .int .i64 k1, .int .i64 0, .int .i64 0, .int .u64 m, .int .u64 o] 47))
      clear ha1 hk1 H
      go_wp2_with fail
      generalize w1.alloc (.cells #[.int .i64 2, .int .i64 k0, .int .i64 k1, .int .i64 0, .int .i64 0, .int .u64 m, .int .u64 o] 47) = w2 at *
      generalize w1.heap.size = z at *
      refine (HL _ A1.out).out.mono ?_
      rintro o w3 ⟨rfl, ha3, hk3⟩
      have B3 := Lib.hid (B1.out.trans (hk3.mono B1.out.size))
      have y2 : w3.cell? ⟨z, 2, none⟩ = some (.int .i64 k1) := (hk3.cell (p := ⟨z, 2, none⟩) (lt_heap hx)).trans (cell_of_row _ _ _ _ _ _ hx)
      clear ha3 hk3 hx B1 A1 HL
      by_cases hil : x.len ≤ i'
      · have hil' : (x.len : Int) ≤ (i' : Int) := by omega
        have e1 : ((i' - x.len : Nat) : Int) = (i' : Int) - (x.len : Int) := by omega
        have hat2 : y.list.getD (i' - x.len) false = goal := by
          rw [← Hat.out, ← hxl]
          simp only [List.getD_eq_getElem?_getD]
          rw [List.getElem?_append_right (by omega)]
        have E1 := Lib.hid e1
        have H2 := Lib.hid hat2
        clear e1 hat2 hil
        go_wp2_with fail
        go_step3
        exact ⟨rfl, gk - 1, by omega, k1, i' - x.len, y, _, _, _, _, _, _, _, _, _, _, _, _, _, _, _, _, _, _, _, _, _, _, _, _, _, _, _, _, _, _, _, _, _, _, _, _, _, _, _, _, _, _, _, by rw [E1.out], Ry.out _ B3.out _ (by omega), by omega, H2.out⟩
      · have hil' : (i' : Int) < (x.len : Int) := by omega
        have hat2 : x.list.getD i' false = goal := by
          rw [← Hat.out]
          simp only [List.getD_eq_getElem?_getD]
          rw [List.getElem?_append_left (by omega)]
        have H2 := Lib.hid hat2
        clear hat2 hil
        go_wp2_with fail
        go_step3
        exact ⟨rfl, gk - 1, by omega, k0, i', x, _, _, _, _, _, _, _, _, _, _, _, _, _, _, _, _, _, _, _, _, _, _, _, _, _, _, _, _, _, _, _, _, _, _, _, _, _, _, _, _, _, _, _, rfl, Rx.out _ B3.out _ (by omega), by omega, H2.out⟩
end
end Go.Proofs.Ytdipgcbppggdhaa
namespace Go.Proofs.Ytdipgcbppggdhaa
set_option maxRecDepth 100000
open Go.RowKit

theorem count_not (l : List Bool) : l.count false + l.count true = l.length := by
  induction l with
  | nil => rfl
  | cons b r ih => cases b <;> simp <;> omega
theorem bsel_left {a b : List Bool} {one : Bool} {k : Nat} (h : k < a.count one) : bsel (a ++ b) one k = bsel a one k := by
  obtain ⟨h1, h2, h3⟩ := bsel_is a one k h
  refine bsel_eq _ _ _ _ ?_ (by rw [List.length_append]; omega) ?_
  · rw [List.take_append_of_le_length (by omega)]; exact h3
  · simp only [List.getD_eq_getElem?_getD] at h2 ⊢
    rw [List.getElem?_append_left h1]; exact h2
theorem bsel_right {a b : List Bool} {one : Bool} {k : Nat} (h : a.count one ≤ k) (hk : k < (a ++ b).count one) : bsel (a ++ b) one k = a.length + bsel b one (k - a.count one) := by
  rw [List.count_append] at hk
  obtain ⟨h1, h2, h3⟩ := bsel_is b one (k - a.count one) (by omega)
  refine bsel_eq _ _ _ _ ?_ (by rw [List.length_append]; omega) ?_
  · rw [List.take_append, List.take_of_length_le (by omega), List.count_append, show a.length + bsel b one (k - a.count one) - a.length = bsel b one (k - a.count one) by omega, h3]; omega
  · simp only [List.getD_eq_getElem?_getD] at h2 ⊢
    rw [List.getElem?_append_right (by omega), show a.length + bsel b one (k - a.count one) - a.length = bsel b one (k - a.count one) by omega]; exact h2
theorem BT.alike (t : BT) (one : Bool) : t.list.count one = if one = true then t.ones else t.len - t.ones := by
  have h1 := t.ones_list
  have h2 := t.len_list
  have h3 := count_not t.list
  cases one
  · rw [if_neg (by decide)]; omega
  · rw [if_pos rfl]; exact h1
section
variable {K : Nat → Prop} {p : Nat} {s : Ar} {L : List Int} {w : World}
def RankJ (K : Nat → Prop) (p : Nat) (s : Ar) (L : List Int) (w : World) (goal : Nat) (k : Nat) (a : Act) (W : World) : Prop :=
  ∃ (h : Int) (i ac : Nat) (t : BT) (u3 u4 u5 u8 u9 u10 u11 u12 u13 u14 u15 u16 u17 u18 u19 u20 u21 u22 u23 u24 u25 u26 u27 u28 u29 u30 u31 u32 u33 u34 u35 u36 u37 u38 u39 u40 u41 u42 u43 u44 u45 u46 u47 u48 u49 u50 u51 u52 u53 : Value), a = { tmps := #[.pointer (some ⟨p, 0, none⟩), .int .i64 h, .int .i64 i, u3, u4, u5, .int .i64 0, .int .i64 ac, u8, u9, u10, u11, u12, u13, u14, u15, u16, u17, u18, u19, u20, u21, u22, u23, u24, u25, u26, u27, u28, u29, u30, u31, u32, u33, u34, u35, u36, u37, u38, u39, u40, u41, u42, u43, u44, u45, u46, u47, u48, u49, u50, u51, u52, u53], defers := [] } ∧ Rdt K p s L w k h t W ∧ i ≤ t.len ∧ ac + (t.list.take i).count true = goal
set_option maxRecDepth 100000 in
set_option maxHeartbeats 8000000 in
theorem brank_in {hn : Int} {t : BT} {m : Nat} (g : Gd s L) (sn : Snd s) (hr : Rdt K p s L w t.high hn t w) (hml : m ≤ t.len) (h1 : 1 ≤ m) :
    Calls Try.prog 44 #[.pointer (some ⟨p, 0, none⟩), .int .i64 hn, .int .i64 m] w fun e w' => e = .returned (.int .i64 ((t.list.take m).count true : Nat)) ∧ Ars w' K p s ∧ Below w.heap.size w w' := by
  obtain ⟨v, hv, vl, _, _⟩ := vw_any hr.rep g hr.firm (by have := hr.len; omega)
  have HL := blen_is hv hr.ars sn.fit
  rw [vl] at HL
  have H0 := Lib.hid HL
  have R0 := Lib.hid (fun W (hb : Below w.heap.size w W) => show Rdt K p s L w t.high hn t W from ⟨hr.ars.below hb, hb, hr.rep, hr.firm, hr.solid, hr.len, hr.high⟩)
  have hi2 : (t.len : Int) ≤ 400000 := by have := hr.len; omega
  have G := Lib.hid g
  have SN := Lib.hid sn
  have Hml := Lib.hid (show m ≤ t.len by omega)
  generalize hgoal : (t.list.take m).count true = goal
  have Hgoal := Lib.hid hgoal
  have Hgl := Lib.hid (show goal ≤ 400000 by have h5 : (t.list.take m).count true ≤ (t.list.take m).length := List.count_le_length; have h6 := hr.len; rw [List.length_take, BT.len_list] at h5; omega)
  have hm0 : ((m : Int) == 0) = false := beq_eq_false_iff_ne.2 (by omega)
  have hfa : (m : Int) ≤ (t.len : Int) := by omega
  have hfb : 1 ≤ (m : Int) := by omega
  clear HL hv vl g sn hr hgoal hml
  go_enter Try.func44, Try.ntmps44
  go_wp2_with fail
  refine wp_scope_ghost 0 (RankJ K p s L w goal) rfl ?pass ?first
  case first =>
    intro hp
    go_wp2_with fail
    refine H0.out.mono ?_
    rintro o w1 ⟨rfl, ha1, hk1⟩
    go_wp2_with fail
    go_step3
    rename_i K hK
    exact hK _ _ (hp.out _ _ _ ⟨hn, m, 0, t, _, _, _, _, _, _, _, _, _, _, _, _, _, _, _, _, _, _, _, _, _, _, _, _, _, _, _, _, _, _, _, _, _, _, _, _, _, _, _, _, _, _, _, _, _, _, _, _, _, rfl, R0.out _ hk1, Hml.out, by have := Hgoal.out; omega⟩)
  case pass =>
    clear H0 R0 hi2 Hml Hgoal hm0 hfa hfb h1
    rintro gk a' W0 ⟨h', i', ac, t', u3, u4, u5, u8, u9, u10, u11, u12, u13, u14, u15, u16, u17, u18, u19, u20, u21, u22, u23, u24, u25, u26, u27, u28, u29, u30, u31, u32, u33, u34, u35, u36, u37, u38, u39, u40, u41, u42, u43, u44, u45, u46, u47, u48, u49, u50, u51, u52, u53, rfl, hd, hle, hat⟩
    have Hd := Lib.hid hd
    cases t' with
    | nil => exact hd.solid.elim
    | leaf l =>
      have hv := hd.leaf G.out
      have H := Lib.hid (row_leaf hv hd.ars SN.out.fit)
      have hl64 := hv.2.2
      have hlt : i' ≤ l.length := hle
      have hat : ac + (l.take i').count true = goal := hat
      have hcl : (l.take i').count true ≤ (l.take i').length := List.count_le_length
      rw [List.length_take] at hcl
      have HB := fun w => Lib.hid (bbits_is l w hl64)
      have HG := fun w => Lib.hid (lrank_is l i' w hl64 hlt)
      have Ha := Lib.hid hd.ars
      have Hbl := Lib.hid hd.below
      have hgl := Hgl.out
      generalize (l.take i').count true = cc at *
      have hsum : (ac : Int) + (cc : Int) = (goal : Int) := by omega
      have hg1 : (goal : Int) ≤ 400000 := by omega
      clear hd hv hl64 hlt hat hle hcl Hd hgl
      go_wp2_with fail
      refine H.out.mono ?_
      rintro o w1 ⟨rfl, ha1, hk1⟩
      have B1 := Lib.hid (hk1.alloc hk1.size (.cells #[.int .i64 1, .int .i64 0, .int .i64 0, .int .i64 0, .int .i64 0, .int .u64 (bN l), .int .u64 l.length] 47))
      clear ha1 hk1 H
      go_wp2_with fail
      refine (HB _).out.mono ?_
      rintro o w2 ⟨rfl, hk2⟩
      have B2 := Lib.hid (B1.out.trans (hk2.mono B1.out.size))
      clear hk2 B1 HB
      go_wp2_with fail
      refine (HG _).out.mono ?_
      rintro o w3 ⟨rfl, hk3⟩
      have B3 := Lib.hid (B2.out.trans (hk3.mono B2.out.size))
      clear hk3 B2
      go_wp2_with fail
      simp only [Exit.jump]
      go_ret
      exact ⟨rfl, Ha.out.below B3.out, Hbl.out.trans (B3.out.mono Hbl.out.size)⟩
    | fork x y =>
      obtain ⟨k0, k1, hv, r0, r1, f0, f1⟩ := hd.kids G.out
      obtain ⟨m, o, hv⟩ : ∃ m o, Vw s h' (.fork k0 k1 m o) := ⟨_, _, hv⟩
      obtain ⟨v0, hv0, vl0, vo0, _⟩ := vw_any r0 G.out f0 (by have := hd.len; have e : (BT.fork x y).len = x.len + y.len := rfl; omega)
      have H := Lib.hid (row_fork hv hd.ars SN.out.fit)
      have HL := fun W (ha : Ars W K p s) => blen_is hv0 ha SN.out.fit
      have HO := fun W (ha : Ars W K p s) => bones_is hv0 ha SN.out.fit
      rw [vl0] at HL
      rw [vo0] at HO
      replace HL := fun W ha => Lib.hid (HL W ha)
      replace HO := fun W ha => Lib.hid (HO W ha)
      have hlen := hd.len
      have hhigh := hd.high
      have el : (BT.fork x y).len = x.len + y.len := rfl
      have eh : (BT.fork x y).high = 1 + max x.high y.high := rfl
      rw [el] at hlen
      rw [eh] at hhigh
      have hl2 : (x.len : Int) ≤ 400000 := by omega
      have hol := x.ones_le
      have ho2 : (x.ones : Int) ≤ (x.len : Int) := by omega
      have hle2 : i' ≤ x.len + y.len := hle
      have hat2 : ac + ((x.list ++ y.list).take i').count true = goal := hat
      have Hat := Lib.hid hat2
      have hi3 : (i' : Int) ≤ 400000 := by omega
      have hgl := Hgl.out
      have hac : (ac : Int) ≤ 400000 := by omega
      have hxo := x.ones_list
      clear hle hat hat2
      have hxl := x.len_list
      have hyl := y.len_list
      have Ha := Lib.hid hd.ars
      have Hbl := Lib.hid hd.below
      have Rx := Lib.hid (fun W (hb : Below W0.heap.size W0 W) k (hk : x.high ≤ k) => show Rdt K p s L w k k0 x W from ⟨hd.ars.below hb, hd.below.trans (hb.mono hd.below.size), r0, f0, hd.solid.1, by omega, hk⟩)
      have Ry := Lib.hid (fun W (hb : Below W0.heap.size W0 W) k (hk : y.high ≤ k) => show Rdt K p s L w k k1 y W from ⟨hd.ars.below hb, hd.below.trans (hb.mono hd.below.size), r1, f1, hd.solid.2, by omega, hk⟩)
      clear hd hv hv0 vl0 vo0 Hd r0 r1 f0 f1 el eh hlen
      go_wp2_with fail
      refine H.out.mono ?_
      rintro o w1 ⟨rfl, ha1, hk1⟩
      have B1 := Lib.hid (hk1.alloc hk1.size (.cells #[.int .i64 2, .int .i64 k0, .int .i64 k1, .int .i64 0, .int .i64 0, .int .u64 m, .int .u64 o] 47))
      have hx := heap_alloc_new w1 (.cells #[.int .i64 2, .int .i64 k0, .int .i64 k1, .int .i64 0, .int .i64 0, .int .u64 m, .int .u64 o] 47)
      have A1 := Lib.hid (ha1.alloc (.cells #[.int .i64 2, .int .i64 k0, .int .i64 k1, .int .i64 0, .int .i64 0, .int .u64 m, .int .u64 o] 47))
      clear ha1 hk1 H
      go_wp2_with fail
      generalize w1.alloc (.cells #[.int .i64 2, .int .i64 k0, .int .i64 k1, .int .i64 0, .int .i64 0, .int .u64 m, .int .u64 o] 47) = w2 at *
      generalize w1.heap.size = z at *
      refine (HL _ A1.out).out.mono ?_
      rintro o w3 ⟨rfl, ha3, hk3⟩
      have B3 := Lib.hid (B1.out.trans (hk3.mono B1.out.size))
      have Hx3 := Lib.hid ((hk3.block z (lt_heap hx)).trans hx)
      have y2 : w3.cell? ⟨z, 2, none⟩ = some (.int .i64 k1) := cell_of_row _ _ _ _ _ _ Hx3.out
      have A3 := Lib.hid ha3
      clear ha3 hk3 hx B1 A1
      by_cases hil : x.len < i'
      · have hil' : (x.len : Int) < (i' : Int) := by omega
        have e1 : ((i' - x.len : Nat) : Int) = (i' : Int) - (x.len : Int) := by omega
        have hat2 : (ac + x.ones) + (y.list.take (i' - x.len)).count true = goal := by
          rw [← Hat.out, List.take_append, List.take_of_length_le (l := x.list) (i := i') (by omega), List.count_append, hxo, hxl]; omega
        have e2 : ((ac + x.ones : Nat) : Int) = (ac : Int) + (x.ones : Int) := by omega
        have E1 := Lib.hid e1
        have E2 := Lib.hid e2
        have H2 := Lib.hid hat2
        clear e1 hat2 hil hxo hxl hyl hgl e2
        go_wp2_with fail
        refine (HO _ A3.out).out.mono ?_
        rintro o w4 ⟨rfl, ha4, hk4⟩
        have B4 := Lib.hid (B3.out.trans (hk4.mono B3.out.size))
        have y3 : w4.cell? ⟨z, 2, none⟩ = some (.int .i64 k1) := cell_of_row _ _ _ _ _ _ ((hk4.block z (lt_heap Hx3.out)).trans Hx3.out)
        clear ha4 hk4 y2
        go_wp2_with fail
        go_step3
        exact ⟨rfl, gk - 1, by omega, k1, i' - x.len, ac + x.ones, y, _, _, _, _, _, _, _, _, _, _, _, _, _, _, _, _, _, _, _, _, _, _, _, _, _, _, _, _, _, _, _, _, _, _, _, _, _, _, _, _, _, _, _, _, _, _, _, _, _, by rw [E1.out, E2.out], Ry.out _ B4.out _ (by omega), by omega, H2.out⟩
      · have hil' : (i' : Int) ≤ (x.len : Int) := by omega
        have hat2 : ac + (x.list.take i').count true = goal := by
          rw [← Hat.out, List.take_append_of_le_length (by omega)]
        have H2 := Lib.hid hat2
        clear hat2 hil hxo hxl hyl hgl
        go_wp2_with fail
        go_step3
        exact ⟨rfl, gk - 1, by omega, k0, i', ac, x, _, _, _, _, _, _, _, _, _, _, _, _, _, _, _, _, _, _, _, _, _, _, _, _, _, _, _, _, _, _, _, _, _, _, _, _, _, _, _, _, _, _, _, _, _, _, _, _, _, rfl, Rx.out _ B3.out _ (by omega), by omega, H2.out⟩
set_option maxRecDepth 100000 in
set_option maxHeartbeats 8000000 in
theorem brank_over {hn : Int} {t : BT} {i : Int} {m : Nat} (g : Gd s L) (sn : Snd s) (hr : Rdt K p s L w t.high hn t w) (hml : m = t.len ∧ (t.len : Int) < i) (h1 : 1 ≤ m) :
    Calls Try.prog 44 #[.pointer (some ⟨p, 0, none⟩), .int .i64 hn, .int .i64 i] w fun e w' => e = .returned (.int .i64 ((t.list.take m).count true : Nat)) ∧ Ars w' K p s ∧ Below w.heap.size w w' := by
  obtain ⟨v, hv, vl, _, _⟩ := vw_any hr.rep g hr.firm (by have := hr.len; omega)
  have HL := blen_is hv hr.ars sn.fit
  rw [vl] at HL
  have H0 := Lib.hid HL
  have R0 := Lib.hid (fun W (hb : Below w.heap.size w W) => show Rdt K p s L w t.high hn t W from ⟨hr.ars.below hb, hb, hr.rep, hr.firm, hr.solid, hr.len, hr.high⟩)
  have hi2 : (t.len : Int) ≤ 400000 := by have := hr.len; omega
  have G := Lib.hid g
  have SN := Lib.hid sn
  have Hml := Lib.hid (show m ≤ t.len by omega)
  generalize hgoal : (t.list.take m).count true = goal
  have Hgoal := Lib.hid hgoal
  have Hgl := Lib.hid (show goal ≤ 400000 by have h5 : (t.list.take m).count true ≤ (t.list.take m).length := List.count_le_length; have h6 := hr.len; rw [List.length_take, BT.len_list] at h5; omega)
  have hm0 : ((m : Int) == 0) = false := beq_eq_false_iff_ne.2 (by omega)
  obtain ⟨rfl, hfa⟩ := hml
  have hfb : 1 ≤ i := by omega
  have hml : True := trivial
  clear HL hv vl g sn hr hgoal hml
  go_enter Try.func44, Try.ntmps44
  go_wp2_with fail
  refine wp_scope_ghost 0 (RankJ K p s L w goal) rfl ?pass ?first
  case first =>
    intro hp
    go_wp2_with fail
    refine H0.out.mono ?_
    rintro o w1 ⟨rfl, ha1, hk1⟩
    go_wp2_with fail
    go_step3
    rename_i K hK
    exact hK _ _ (hp.out _ _ _ ⟨hn, t.len, 0, t, _, _, _, _, _, _, _, _, _, _, _, _, _, _, _, _, _, _, _, _, _, _, _, _, _, _, _, _, _, _, _, _, _, _, _, _, _, _, _, _, _, _, _, _, _, _, _, _, _, rfl, R0.out _ hk1, Hml.out, by have := Hgoal.out; omega⟩)
  case pass =>
    clear H0 R0 hi2 Hml Hgoal hm0 hfa hfb h1
    rintro gk a' W0 ⟨h', i', ac, t', u3, u4, u5, u8, u9, u10, u11, u12, u13, u14, u15, u16, u17, u18, u19, u20, u21, u22, u23, u24, u25, u26, u27, u28, u29, u30, u31, u32, u33, u34, u35, u36, u37, u38, u39, u40, u41, u42, u43, u44, u45, u46, u47, u48, u49, u50, u51, u52, u53, rfl, hd, hle, hat⟩
    have Hd := Lib.hid hd
    cases t' with
    | nil => exact hd.solid.elim
    | leaf l =>
      have hv := hd.leaf G.out
      have H := Lib.hid (row_leaf hv hd.ars SN.out.fit)
      have hl64 := hv.2.2
      have hlt : i' ≤ l.length := hle
      have hat : ac + (l.take i').count true = goal := hat
      have hcl : (l.take i').count true ≤ (l.take i').length := List.count_le_length
      rw [List.length_take] at hcl
      have HB := fun w => Lib.hid (bbits_is l w hl64)
      have HG := fun w => Lib.hid (lrank_is l i' w hl64 hlt)
      have Ha := Lib.hid hd.ars
      have Hbl := Lib.hid hd.below
      have hgl := Hgl.out
      generalize (l.take i').count true = cc at *
      have hsum : (ac : Int) + (cc : Int) = (goal : Int) := by omega
      have hg1 : (goal : Int) ≤ 400000 := by omega
      clear hd hv hl64 hlt hat hle hcl Hd hgl
      go_wp2_with fail
      refine H.out.mono ?_
      rintro o w1 ⟨rfl, ha1, hk1⟩
      have B1 := Lib.hid (hk1.alloc hk1.size (.cells #[.int .i64 1, .int .i64 0, .int .i64 0, .int .i64 0, .int .i64 0, .int .u64 (bN l), .int .u64 l.length] 47))
      clear ha1 hk1 H
      go_wp2_with fail
      refine (HB _).out.mono ?_
      rintro o w2 ⟨rfl, hk2⟩
      have B2 := Lib.hid (B1.out.trans (hk2.mono B1.out.size))
      clear hk2 B1 HB
      go_wp2_with fail
      refine (HG _).out.mono ?_
      rintro o w3 ⟨rfl, hk3⟩
      have B3 := Lib.hid (B2.out.trans (hk3.mono B2.out.size))
      clear hk3 B2
      go_wp2_with fail
      simp only [Exit.jump]
      go_ret
      exact ⟨rfl, Ha.out.below B3.out, Hbl.out.trans (B3.out.mono Hbl.out.size)⟩
    | fork x y =>
      obtain ⟨k0, k1, hv, r0, r1, f0, f1⟩ := hd.kids G.out
      obtain ⟨m, o, hv⟩ : ∃ m o, Vw s h' (.fork k0 k1 m o) := ⟨_, _, hv⟩
      obtain ⟨v0, hv0, vl0, vo0, _⟩ := vw_any r0 G.out f0 (by have := hd.len; have e : (BT.fork x y).len = x.len + y.len := rfl; omega)
      have H := Lib.hid (row_fork hv hd.ars SN.out.fit)
      have HL := fun W (ha : Ars W K p s) => blen_is hv0 ha SN.out.fit
      have HO := fun W (ha : Ars W K p s) => bones_is hv0 ha SN.out.fit
      rw [vl0] at HL
      rw [vo0] at HO
      replace HL := fun W ha => Lib.hid (HL W ha)
      replace HO := fun W ha => Lib.hid (HO W ha)
      have hlen := hd.len
      have hhigh := hd.high
      have el : (BT.fork x y).len = x.len + y.len := rfl
      have eh : (BT.fork x y).high = 1 + max x.high y.high := rfl
      rw [el] at hlen
      rw [eh] at hhigh
      have hl2 : (x.len : Int) ≤ 400000 := by omega
      have hol := x.ones_le
      have ho2 : (x.ones : Int) ≤ (x.len : Int) := by omega
      have hle2 : i' ≤ x.len + y.len := hle
      have hat2 : ac + ((x.list ++ y.list).take i').count true = goal := hat
      have Hat := Lib.hid hat2
      have hi3 : (i' : Int) ≤ 400000 := by omega
      have hgl := Hgl.out
      have hac : (ac : Int) ≤ 400000 := by omega
      have hxo := x.ones_list
      clear hle hat hat2
      have hxl := x.len_list
      have hyl := y.len_list
      have Ha := Lib.hid hd.ars
      have Hbl := Lib.hid hd.below
      have Rx := Lib.hid (fun W (hb : Below W0.heap.size W0 W) k (hk : x.high ≤ k) => show Rdt K p s L w k k0 x W from ⟨hd.ars.below hb, hd.below.trans (hb.mono hd.below.size), r0, f0, hd.solid.1, by omega, hk⟩)
      have Ry := Lib.hid (fun W (hb : Below W0.heap.size W0 W) k (hk : y.high ≤ k) => show Rdt K p s L w k k1 y W from ⟨hd.ars.below hb, hd.below.trans (hb.mono hd.below.size), r1, f1, hd.solid.2, by omega, hk⟩)
      clear hd hv hv0 vl0 vo0 Hd r0 r1 f0 f1 el eh hlen
      go_wp2_with fail
      refine H.out.mono ?_
      rintro o w1 ⟨rfl, ha1, hk1⟩
      have B1 := Lib.hid (hk1.alloc hk1.size (.cells #[.int .i64 2, .int .i64 k0, .int .i64 k1, .int .i64 0, .int .i64 0, .int .u64 m, .int .u64 o] 47))
      have hx := heap_alloc_new w1 (.cells #[.int .i64 2, .int .i64 k0, .int .i64 k1, .int .i64 0, .int .i64 0, .int .u64 m, .int .u64 o] 47)
      have A1 := Lib.hid (ha1.alloc (.cells #[.int .i64 2, .int .i64 k0, .int .i64 k1, .int .i64 0, .int .i64 0, .int .u64 m, .int .u64 o] 47))
      clear ha1 hk1 H
      go_wp2_with fail
      generalize w1.alloc (.cells #[.int .i64 2, .int .i64 k0, .int .i64 k1, .int .i64 0, .int .i64 0, .int .u64 m, .int .u64 o] 47) = w2 at *
      generalize w1.heap.size = z at *
      refine (HL _ A1.out).out.mono ?_
      rintro o w3 ⟨rfl, ha3, hk3⟩
      have B3 := Lib.hid (B1.out.trans (hk3.mono B1.out.size))
      have Hx3 := Lib.hid ((hk3.block z (lt_heap hx)).trans hx)
      have y2 : w3.cell? ⟨z, 2, none⟩ = some (.int .i64 k1) := cell_of_row _ _ _ _ _ _ Hx3.out
      have A3 := Lib.hid ha3
      clear ha3 hk3 hx B1 A1
      by_cases hil : x.len < i'
      · have hil' : (x.len : Int) < (i' : Int) := by omega
        have e1 : ((i' - x.len : Nat) : Int) = (i' : Int) - (x.len : Int) := by omega
        have hat2 : (ac + x.ones) + (y.list.take (i' - x.len)).count true = goal := by
          rw [← Hat.out, List.take_append, List.take_of_length_le (l := x.list) (i := i') (by omega), List.count_append, hxo, hxl]; omega
        have e2 : ((ac + x.ones : Nat) : Int) = (ac : Int) + (x.ones : Int) := by omega
        have E1 := Lib.hid e1
        have E2 := Lib.hid e2
        have H2 := Lib.hid hat2
        clear e1 hat2 hil hxo hxl hyl hgl e2
        go_wp2_with fail
        refine (HO _ A3.out).out.mono ?_
        rintro o w4 ⟨rfl, ha4, hk4⟩
        have B4 := Lib.hid (B3.out.trans (hk4.mono B3.out.size))
        have y3 : w4.cell? ⟨z, 2, none⟩ = some (.int .i64 k1) := cell_of_row _ _ _ _ _ _ ((hk4.block z (lt_heap Hx3.out)).trans Hx3.out)
        clear ha4 hk4 y2
        go_wp2_with fail
        go_step3
        exact ⟨rfl, gk - 1, by omega, k1, i' - x.len, ac + x.ones, y, _, _, _, _, _, _, _, _, _, _, _, _, _, _, _, _, _, _, _, _, _, _, _, _, _, _, _, _, _, _, _, _, _, _, _, _, _, _, _, _, _, _, _, _, _, _, _, _, _, by rw [E1.out, E2.out], Ry.out _ B4.out _ (by omega), by omega, H2.out⟩
      · have hil' : (i' : Int) ≤ (x.len : Int) := by omega
        have hat2 : ac + (x.list.take i').count true = goal := by
          rw [← Hat.out, List.take_append_of_le_length (by omega)]
        have H2 := Lib.hid hat2
        clear hat2 hil hxo hxl hyl hgl
        go_wp2_with fail
        go_step3
        exact ⟨rfl, gk - 1, by omega, k0, i', ac, x, _, _, _, _, _, _, _, _, _, _, _, _, _, _, _, _, _, _, _, _, _, _, _, _, _, _, _, _, _, _, _, _, _, _, _, _, _, _, _, _, _, _, _, _, _, _, _, _, _, rfl, Rx.out _ B3.out _ (by omega), by omega, H2.out⟩
end
end Go.Proofs.Ytdipgcbppggdhaa
namespace Go.Proofs.Ytdipgcbppggdhaa
set_option maxRecDepth 100000
open Go.RowKit

section
variable {K : Nat → Prop} {p : Nat} {s : Ar} {L : List Int} {w : World}
def alikeN (one : Bool) (len ones : Nat) : Nat := if one = true then ones else len - ones
set_option maxHeartbeats 4000000 in
theorem balike_is {h : Int} {v : View} {one : Bool} {len ones : Nat} (hv : Vw s h v) (vl : v.len = len) (vo : v.ones = ones) (ho : ones ≤ len) (ha : Ars w K p s) (hf : s.Fit) :
    Calls Try.prog 58 #[.pointer (some ⟨p, 0, none⟩), .int .i64 h, .bool one] w fun r w' => r = .returned (.int .i64 (alikeN one len ones)) ∧ Ars w' K p s ∧ Below w.heap.size w w' := by
  have HL := fun W (ha : Ars W K p s) => blen_is hv ha hf
  have HO := fun W (ha : Ars W K p s) => bones_is hv ha hf
  have hb := hv.big.1
  rw [vl] at HL hb
  rw [vo] at HO
  replace HL := fun W ha => Lib.hid (HL W ha)
  replace HO := fun W ha => Lib.hid (HO W ha)
  have Ha := Lib.hid ha
  have h1 : (len : Int) ≤ 1000000 := by omega
  have h2 : (ones : Int) ≤ (len : Int) := by omega
  clear hv vl vo ha hf hb
  cases one
  · have e : alikeN false len ones = len - ones := rfl
    rw [e]
    have e2 : ((len - ones : Nat) : Int) = (len : Int) - (ones : Int) := by omega
    rw [e2]
    clear e e2 ho
    go_enter Try.func58, Try.ntmps58
    go_wp2_with fail
    refine (HL _ Ha.out).out.mono ?_
    rintro o w1 ⟨rfl, ha1, hk1⟩
    have A1 := Lib.hid ha1
    have B1 := Lib.hid hk1
    clear ha1 hk1
    go_wp2_with fail
    refine (HO _ A1.out).out.mono ?_
    rintro o w2 ⟨rfl, ha2, hk2⟩
    go_wp2_with fail
    go_ret
    exact ⟨rfl, ha2, B1.out.trans (hk2.mono B1.out.size)⟩
  · have e : alikeN true len ones = ones := rfl
    rw [e]
    clear e ho
    go_enter Try.func58, Try.ntmps58
    go_wp2_with fail
    refine (HO _ Ha.out).out.mono ?_
    rintro o w2 ⟨rfl, ha2, hk2⟩
    go_wp2_with fail
    go_ret
    exact ⟨rfl, ha2, hk2⟩
theorem alikeN_is (t : BT) (one : Bool) : alikeN one t.len t.ones = t.list.count one := (t.alike one).symm
set_option maxHeartbeats 4000000 in
theorem bselect_vw {hn : Int} {v : View} {n : Nat} {i : Int} {one : Bool} (hv : Vw s hn v) (hn1 : alikeN one v.len v.ones = n) (ho : v.ones ≤ v.len) (hf : s.Fit) (ha : Ars w K p s) (hi : i < 0 ∨ (n : Int) ≤ i) :
    Calls Try.prog 45 #[.pointer (some ⟨p, 0, none⟩), .int .i64 hn, .bool one, .int .i64 i] w fun e w' => e = .returned (.int .i64 (-1)) ∧ Ars w' K p s ∧ Below w.heap.size w w' := by
  have HA := balike_is (one := one) hv rfl rfl ho ha hf
  rw [hn1] at HA
  have H := Lib.hid HA
  have Ha := Lib.hid ha
  have hb := hv.big.1
  have hc2 : (n : Int) ≤ 1000000 := by
    have : n ≤ v.len := by rw [← hn1]; unfold alikeN; split <;> omega
    omega
  clear HA hv hn1 ho hf ha hb
  by_cases c : i < 0
  · clear hi
    go_enter Try.func45, Try.ntmps45
    go_wp2_with fail
    refine wp_scope_ghost 0 (fun _ _ _ => False) rfl (fun _ _ _ h => h.elim) fun _ => ?_
    go_wp2_with fail
    simp only [Exit.jump]
    go_ret
    exact ⟨rfl, Ha.out, Below.refl _ _⟩
  · have c1 : 0 ≤ i := by omega
    have c2 : (n : Int) ≤ i := by omega
    clear hi c
    go_enter Try.func45, Try.ntmps45
    go_wp2_with fail
    refine wp_scope_ghost 0 (fun _ _ _ => False) rfl (fun _ _ _ h => h.elim) fun _ => ?_
    go_wp2_with fail
    refine H.out.mono ?_
    rintro o w1 ⟨rfl, ha1, hk1⟩
    go_wp2_with fail
    simp only [Exit.jump]
    go_ret
    exact ⟨rfl, ha1, hk1⟩
set_option maxHeartbeats 4000000 in
theorem bget_vw {hn : Int} {v : View} {i : Int} (hv : Vw s hn v) (hf : s.Fit) (ha : Ars w K p s) (hi : i < 0 ∨ (v.len : Int) ≤ i) :
    Calls Try.prog 35 #[.pointer (some ⟨p, 0, none⟩), .int .i64 hn, .int .i64 i] w fun e w' => e = .returned (.tuple #[.bool false, .bool false]) ∧ Ars w' K p s ∧ Below w.heap.size w w' := by
  have H := Lib.hid (blen_is hv ha hf)
  have Ha := Lib.hid ha
  have hb := hv.big.1
  have hc2 : (v.len : Int) ≤ 1000000 := by omega
  clear hv hf ha hb
  generalize v.len = n at *
  by_cases c : i < 0
  · clear hi
    go_enter Try.func35, Try.ntmps35
    go_wp2_with fail
    refine wp_scope_ghost 0 (fun _ _ _ => False) rfl (fun _ _ _ h => h.elim) fun _ => ?_
    go_wp2_with fail
    simp only [Exit.jump]
    go_ret2
    exact ⟨rfl, Ha.out, Below.refl _ _⟩
  · have c1 : 0 ≤ i := by omega
    have c2 : (n : Int) ≤ i := by omega
    clear hi c
    go_enter Try.func35, Try.ntmps35
    go_wp2_with fail
    refine wp_scope_ghost 0 (fun _ _ _ => False) rfl (fun _ _ _ h => h.elim) fun _ => ?_
    go_wp2_with fail
    refine H.out.mono ?_
    rintro o w1 ⟨rfl, ha1, hk1⟩
    go_wp2_with fail
    simp only [Exit.jump]
    go_ret2
    exact ⟨rfl, ha1, hk1⟩
set_option maxHeartbeats 4000000 in
theorem brank_vw {hn : Int} {v : View} {i : Int} (hv : Vw s hn v) (hf : s.Fit) (ha : Ars w K p s) (hi : i ≤ 0 ∨ v.len = 0) :
    Calls Try.prog 44 #[.pointer (some ⟨p, 0, none⟩), .int .i64 hn, .int .i64 i] w fun e w' => e = .returned (.int .i64 0) ∧ Ars w' K p s ∧ Below w.heap.size w w' := by
  have H := Lib.hid (blen_is hv ha hf)
  have Ha := Lib.hid ha
  have hb := hv.big.1
  have hc2 : (v.len : Int) ≤ 1000000 := by omega
  clear hv hf ha hb
  generalize v.len = n at *
  have hn0 : 0 ≤ (n : Int) := by omega
  rcases Int.lt_trichotomy i 0 with c | c | c
  · have hmx : max i 0 = 0 := by omega
    have hmn : min 0 (n : Int) = 0 := by omega
    clear hi
    go_enter Try.func44, Try.ntmps44
    go_wp2_with fail
    refine wp_scope_ghost 0 (fun _ _ _ => False) rfl (fun _ _ _ h => h.elim) fun _ => ?_
    go_wp2_with fail
    refine H.out.mono ?_
    rintro o w1 ⟨rfl, ha1, hk1⟩
    go_wp2_with fail
    all_goals
      simp only [Exit.jump]
      go_ret
      exact ⟨rfl, ha1, hk1⟩
  · subst c
    have hmn : min 0 (n : Int) = 0 := by omega
    clear hi
    go_enter Try.func44, Try.ntmps44
    go_wp2_with fail
    refine wp_scope_ghost 0 (fun _ _ _ => False) rfl (fun _ _ _ h => h.elim) fun _ => ?_
    go_wp2_with fail
    refine H.out.mono ?_
    rintro o w1 ⟨rfl, ha1, hk1⟩
    go_wp2_with fail
    all_goals
      simp only [Exit.jump]
      go_ret
      exact ⟨rfl, ha1, hk1⟩
  · obtain rfl : n = 0 := by omega
    have c1 : 0 < i := by omega
    have hmx : max i 0 = i := by omega
    have hmn : min i 0 = 0 := by omega
    clear hi c hn0
    go_enter Try.func44, Try.ntmps44
    go_wp2_with fail
    refine wp_scope_ghost 0 (fun _ _ _ => False) rfl (fun _ _ _ h => h.elim) fun _ => ?_
    go_wp2_with fail
    refine H.out.mono ?_
    rintro o w1 ⟨rfl, ha1, hk1⟩
    go_wp2_with fail
    all_goals
      simp only [Exit.jump]
      go_ret
      exact ⟨rfl, ha1, hk1⟩
theorem bselect_no {hn : Int} {t : BT} {i : Int} {one : Bool} (g : Gd s L) (sn : Snd s) (hr : BRep s hn t) (hf : BFirm s L hn) (hl : t.len ≤ 400000) (ha : Ars w K p s) (hi : i < 0 ∨ (t.list.count one : Int) ≤ i) :
    Calls Try.prog 45 #[.pointer (some ⟨p, 0, none⟩), .int .i64 hn, .bool one, .int .i64 i] w fun e w' => e = .returned (.int .i64 (-1)) ∧ Ars w' K p s ∧ Below w.heap.size w w' := by
  obtain ⟨v, hv, vl, vo, _⟩ := vw_any hr g hf (by omega)
  exact bselect_vw hv (by rw [vl, vo, alikeN_is]) (by rw [vl, vo]; exact t.ones_le) sn.fit ha hi
theorem bget_no {hn : Int} {t : BT} {i : Int} (g : Gd s L) (sn : Snd s) (hr : BRep s hn t) (hf : BFirm s L hn) (hl : t.len ≤ 400000) (ha : Ars w K p s) (hi : i < 0 ∨ (t.len : Int) ≤ i) :
    Calls Try.prog 35 #[.pointer (some ⟨p, 0, none⟩), .int .i64 hn, .int .i64 i] w fun e w' => e = .returned (.tuple #[.bool false, .bool false]) ∧ Ars w' K p s ∧ Below w.heap.size w w' := by
  obtain ⟨v, hv, vl, _, _⟩ := vw_any hr g hf (by omega)
  exact bget_vw hv sn.fit ha (by rw [vl]; exact hi)
theorem brank_zero {hn : Int} {t : BT} {i : Int} (g : Gd s L) (sn : Snd s) (hr : BRep s hn t) (hf : BFirm s L hn) (hl : t.len ≤ 400000) (ha : Ars w K p s) (hi : i ≤ 0 ∨ t.len = 0) :
    Calls Try.prog 44 #[.pointer (some ⟨p, 0, none⟩), .int .i64 hn, .int .i64 i] w fun e w' => e = .returned (.int .i64 0) ∧ Ars w' K p s ∧ Below w.heap.size w w' := by
  obtain ⟨v, hv, vl, _, _⟩ := vw_any hr g hf (by omega)
  exact brank_vw hv sn.fit ha (by rw [vl]; exact hi)
def SelJ (K : Nat → Prop) (p : Nat) (s : Ar) (L : List Int) (w : World) (one : Bool) (goal : Nat) (k : Nat) (a : Act) (W : World) : Prop :=
  ∃ (h : Int) (i ac : Nat) (t : BT) (u4 u5 u6 u7 u10 u11 u12 u13 u14 u15 u16 u17 u18 u19 u20 u21 u22 u23 u24 u25 u26 u27 u28 u29 u30 u31 u32 u33 u34 u35 u36 u37 u38 u39 u40 u41 u42 u43 u44 u45 u46 u47 u48 u49 u50 u51 u52 u53 u54 u55 u56 u57 u58 u59 : Value), a = { tmps := #[.pointer (some ⟨p, 0, none⟩), .int .i64 h, .bool one, .int .i64 i, u4, u5, u6, u7, .int .i64 0, .int .i64 ac, u10, u11, u12, u13, u14, u15, u16, u17, u18, u19, u20, u21, u22, u23, u24, u25, u26, u27, u28, u29, u30, u31, u32, u33, u34, u35, u36, u37, u38, u39, u40, u41, u42, u43, u44, u45, u46, u47, u48, u49, u50, u51, u52, u53, u54, u55, u56, u57, u58, u59], defers := [] } ∧ Rdt K p s L w k h t W ∧ i < t.list.count one ∧ ac + bsel t.list one i = goal
set_option maxRecDepth 100000 in
set_option maxHeartbeats 8000000 in
theorem bselect_in {hn : Int} {t : BT} {i : Nat} {one : Bool} (g : Gd s L) (sn : Snd s) (hr : Rdt K p s L w t.high hn t w) (hi : i < t.list.count one) :
    Calls Try.prog 45 #[.pointer (some ⟨p, 0, none⟩), .int .i64 hn, .bool one, .int .i64 i] w fun e w' => e = .returned (.int .i64 (bsel t.list one i)) ∧ Ars w' K p s ∧ Below w.heap.size w w' := by
  obtain ⟨v, hv, vl, vo, _⟩ := vw_any hr.rep g hr.firm (by have := hr.len; omega)
  have HL := balike_is (one := one) hv vl vo t.ones_le hr.ars sn.fit
  rw [alikeN_is] at HL
  have H0 := Lib.hid HL
  have R0 := Lib.hid (fun W (hb : Below w.heap.size w W) => show Rdt K p s L w t.high hn t W from ⟨hr.ars.below hb, hb, hr.rep, hr.firm, hr.solid, hr.len, hr.high⟩)
  have G := Lib.hid g
  have SN := Lib.hid sn
  have Hi := Lib.hid hi
  have hcl : t.list.count one ≤ t.list.length := List.count_le_length
  rw [t.len_list] at hcl
  generalize hgoal : bsel t.list one i = goal
  have Hgoal := Lib.hid hgoal
  have Hgl := Lib.hid (show goal ≤ 400000 by have h5 := (bsel_is t.list one i hi).1; have h6 := hr.len; rw [BT.len_list] at h5; omega)
  have hfa : (i : Int) < (t.list.count one : Int) := by omega
  have hfb : (t.list.count one : Int) ≤ 400000 := by have := hr.len; omega
  clear HL hv vl vo g sn hr hgoal hi hcl
  go_enter Try.func45, Try.ntmps45
  go_wp2_with fail
  refine wp_scope_ghost 0 (SelJ K p s L w one goal) rfl ?pass ?first
  case first =>
    intro hp
    go_wp2_with fail
    refine H0.out.mono ?_
    rintro o w1 ⟨rfl, ha1, hk1⟩
    go_wp2_with fail
    go_step3
    rename_i K hK
    exact hK _ _ (hp.out _ _ _ ⟨hn, i, 0, t, _, _, _, _, _, _, _, _, _, _, _, _, _, _, _, _, _, _, _, _, _, _, _, _, _, _, _, _, _, _, _, _, _, _, _, _, _, _, _, _, _, _, _, _, _, _, _, _, _, _, _, _, _, _, rfl, R0.out _ hk1, Hi.out, by have := Hgoal.out; omega⟩)
  case pass =>
    clear H0 R0 Hi Hgoal hfa hfb
    rintro gk a' W0 ⟨h', i', ac, t', u4, u5, u6, u7, u10, u11, u12, u13, u14, u15, u16, u17, u18, u19, u20, u21, u22, u23, u24, u25, u26, u27, u28, u29, u30, u31, u32, u33, u34, u35, u36, u37, u38, u39, u40, u41, u42, u43, u44, u45, u46, u47, u48, u49, u50, u51, u52, u53, u54, u55, u56, u57, u58, u59, rfl, hd, hle, hat⟩
    have Hd := Lib.hid hd
    cases t' with
    | nil => exact hd.solid.elim
    | leaf l =>
      have hv := hd.leaf G.out
      have H := Lib.hid (row_leaf hv hd.ars SN.out.fit)
      have hl64 := hv.2.2
      have hlt : i' < l.count one := hle
      have hat : ac + bsel l one i' = goal := hat
      have hcl : l.count one ≤ l.length := List.count_le_length
      have HB := fun w => Lib.hid (bbits_is l w hl64)
      have HG := fun w => Lib.hid (lsel_is l one i' w hl64 hlt)
      have Ha := Lib.hid hd.ars
      have Hbl := Lib.hid hd.below
      have hgl := Hgl.out
      generalize bsel l one i' = cc at *
      have hsum : (ac : Int) + (cc : Int) = (goal : Int) := by omega
      have hg1 : (goal : Int) ≤ 400000 := by omega
      clear hd hv hl64 hlt hat hle hcl Hd hgl
      go_wp2_with fail
      refine H.out.mono ?_
      rintro o w1 ⟨rfl, ha1, hk1⟩
      have B1 := Lib.hid (hk1.alloc hk1.size (.cells #[.int .i64 1, .int .i64 0, .int .i64 0, .int .i64 0, .int .i64 0, .int .u64 (bN l), .int .u64 l.length] 47))
      clear ha1 hk1 H
      go_wp2_with fail
      refine (HB _).out.mono ?_
      rintro o w2 ⟨rfl, hk2⟩
      have B2 := Lib.hid (B1.out.trans (hk2.mono B1.out.size))
      clear hk2 B1 HB
      go_wp2_with fail
      refine (HG _).out.mono ?_
      rintro o w3 ⟨rfl, hk3⟩
      have B3 := Lib.hid (B2.out.trans (hk3.mono B2.out.size))
      clear hk3 B2
      go_wp2_with fail
      simp only [Exit.jump]
      go_ret
      exact ⟨rfl, Ha.out.below B3.out, Hbl.out.trans (B3.out.mono Hbl.out.size)⟩
    | fork x y =>
      obtain ⟨k0, k1, hv, r0, r1, f0, f1⟩ := hd.kids G.out
      obtain ⟨m, o, hv⟩ : ∃ m o, Vw s h' (.fork k0 k1 m o) := ⟨_, _, hv⟩
      obtain ⟨v0, hv0, vl0, vo0, _⟩ := vw_any r0 G.out f0 (by have := hd.len; have e : (BT.fork x y).len = x.len + y.len := rfl; omega)
      have H := Lib.hid (row_fork hv hd.ars SN.out.fit)
      have HL := fun W (ha : Ars W K p s) => balike_is (one := one) hv0 vl0 vo0 x.ones_le ha SN.out.fit
      have HO := fun W (ha : Ars W K p s) => blen_is hv0 ha SN.out.fit
      rw [alikeN_is] at HL
      rw [vl0] at HO
      replace HL := fun W ha => Lib.hid (HL W ha)
      replace HO := fun W ha => Lib.hid (HO W ha)
      have hlen := hd.len
      have hhigh := hd.high
      have el : (BT.fork x y).len = x.len + y.len := rfl
      have eh : (BT.fork x y).high = 1 + max x.high y.high := rfl
      rw [el] at hlen
      rw [eh] at hhigh
      have hl2 : (x.len : Int) ≤ 400000 := by omega
      have hol := x.ones_le
      have ho2 : (x.ones : Int) ≤ (x.len : Int) := by omega
      have hle2 : i' < (x.list ++ y.list).count one := hle
      have hat2 : ac + bsel (x.list ++ y.list) one i' = goal := hat
      have Hle := Lib.hid hle2
      have Hat := Lib.hid hat2
      have hxc : x.list.count one ≤ x.list.length := List.count_le_length
      have hyc : y.list.count one ≤ y.list.length := List.count_le_length
      rw [x.len_list] at hxc
      rw [y.len_list] at hyc
      rw [List.count_append] at hle2
      have hi3 : (i' : Int) ≤ 400000 := by omega
      have hgl := Hgl.out
      have hac : (ac : Int) ≤ 400000 := by omega
      have hxc2 : (x.list.count one : Int) ≤ 400000 := by omega
      clear hle hat hat2
      have hxl := x.len_list
      have hyl := y.len_list
      have Ha := Lib.hid hd.ars
      have Hbl := Lib.hid hd.below
      have Rx := Lib.hid (fun W (hb : Below W0.heap.size W0 W) k (hk : x.high ≤ k) => show Rdt K p s L w k k0 x W from ⟨hd.ars.below hb, hd.below.trans (hb.mono hd.below.size), r0, f0, hd.solid.1, by omega, hk⟩)
      have Ry := Lib.hid (fun W (hb : Below W0.heap.size W0 W) k (hk : y.high ≤ k) => show Rdt K p s L w k k1 y W from ⟨hd.ars.below hb, hd.below.trans (hb.mono hd.below.size), r1, f1, hd.solid.2, by omega, hk⟩)
      clear hd hv hv0 vl0 vo0 Hd r0 r1 f0 f1 el eh hlen
      go_wp2_with fail
      refine H.out.mono ?_
      rintro o w1 ⟨rfl, ha1, hk1⟩
      have B1 := Lib.hid (hk1.alloc hk1.size (.cells #[.int .i64 2, .int .i64 k0, .int .i64 k1, .int .i64 0, .int .i64 0, .int .u64 m, .int .u64 o] 47))
      have hx := heap_alloc_new w1 (.cells #[.int .i64 2, .int .i64 k0, .int .i64 k1, .int .i64 0, .int .i64 0, .int .u64 m, .int .u64 o] 47)
      have A1 := Lib.hid (ha1.alloc (.cells #[.int .i64 2, .int .i64 k0, .int .i64 k1, .int .i64 0, .int .i64 0, .int .u64 m, .int .u64 o] 47))
      clear ha1 hk1 H
      go_wp2_with fail
      generalize w1.alloc (.cells #[.int .i64 2, .int .i64 k0, .int .i64 k1, .int .i64 0, .int .i64 0, .int .u64 m, .int .u64 o] 47) = w2 at *
      generalize w1.heap.size = z at *
      refine (HL _ A1.out).out.mono ?_
      rintro o w3 ⟨rfl, ha3, hk3⟩
      have B3 := Lib.hid (B1.out.trans (hk3.mono B1.out.size))
      have Hx3 := Lib.hid ((hk3.block z (lt_heap hx)).trans hx)
      have y2 : w3.cell? ⟨z, 2, none⟩ = some (.int .i64 k1) := cell_of_row _ _ _ _ _ _ Hx3.out
      have A3 := Lib.hid ha3
      clear ha3 hk3 hx B1 A1
      by_cases hil : x.list.count one ≤ i'
      · have hil' : (x.list.count one : Int) ≤ (i' : Int) := by omega
        have e1 : ((i' - x.list.count one : Nat) : Int) = (i' : Int) - (x.list.count one : Int) := by omega
        have hat2 : (ac + x.len) + bsel y.list one (i' - x.list.count one) = goal := by
          rw [← Hat.out, bsel_right hil Hle.out, hxl]; omega
        have hle3 : i' - x.list.count one < y.list.count one := by omega
        have e2 : ((ac + x.len : Nat) : Int) = (ac : Int) + (x.len : Int) := by omega
        have E1 := Lib.hid e1
        have E2 := Lib.hid e2
        have H2 := Lib.hid (And.intro hle3 hat2)
        clear e1 hat2 hil hxl hyl hgl e2 hle3 hle2 hxc hyc
        go_wp2_with fail
        refine (HO _ A3.out).out.mono ?_
        rintro o w4 ⟨rfl, ha4, hk4⟩
        have B4 := Lib.hid (B3.out.trans (hk4.mono B3.out.size))
        have y3 : w4.cell? ⟨z, 2, none⟩ = some (.int .i64 k1) := cell_of_row _ _ _ _ _ _ ((hk4.block z (lt_heap Hx3.out)).trans Hx3.out)
        clear ha4 hk4 y2
        go_wp2_with fail
        go_step3
        exact ⟨rfl, gk - 1, by omega, k1, i' - x.list.count one, ac + x.len, y, _, _, _, _, _, _, _, _, _, _, _, _, _, _, _, _, _, _, _, _, _, _, _, _, _, _, _, _, _, _, _, _, _, _, _, _, _, _, _, _, _, _, _, _, _, _, _, _, _, _, _, _, _, _, by rw [E1.out, E2.out], Ry.out _ B4.out _ (by omega), H2.out.1, H2.out.2⟩
      · have hil' : (i' : Int) < (x.list.count one : Int) := by omega
        have hat2 : ac + bsel x.list one i' = goal := by
          rw [← Hat.out, bsel_left (by omega)]
        have hle3 : i' < x.list.count one := by omega
        have H2 := Lib.hid (And.intro hle3 hat2)
        clear hat2 hil hxl hyl hgl hle3 hle2 hxc hyc
        go_wp2_with fail
        go_step3
        exact ⟨rfl, gk - 1, by omega, k0, i', ac, x, _, _, _, _, _, _, _, _, _, _, _, _, _, _, _, _, _, _, _, _, _, _, _, _, _, _, _, _, _, _, _, _, _, _, _, _, _, _, _, _, _, _, _, _, _, _, _, _, _, _, _, _, _, _, rfl, Rx.out _ B3.out _ (by omega), H2.out.1, H2.out.2⟩
end
end Go.Proofs.Ytdipgcbppggdhaa
