/- What the closures of Insert, Delete and Set make of one item, whatever happens; whether there may be an item at a place; what is told. -/
import Derived.Test.YtcdmebjggdhhdaaM4
import Derived.Test.YtcdmebjggdhhdaaM5
import Derived.Test.YtcdmebjggdhhdaaM6
namespace Go.Proofs.Ytcdmebjggdhhdaa
open Go.RowKit

section
variable {K : Nat → Prop} {q p : Nat} {s : Ar} {L : List Int} {w : World}
set_option maxHeartbeats 1000000 in
theorem told_gen {e : Int} (h : Int) (hz : e ≠ 0 → h = 0) (ha : Tre w K q p s e) : Calls Try.prog 32 #[.pointer (some ⟨q, 0, none⟩), .int .i64 h] w fun o w' => o = .returned (.tuple #[.int .i64 h, .int .i64 e]) ∧ Tre w' K q p s e ∧ Kept K w w' := by
  have c1 := ha.c1
  have Ha := Lib.hid ha
  clear ha
  by_cases h0 : e = 0
  · subst h0
    go_enter Try.func32, Try.ntmps32
    go_wp2_with fail
    go_ret2
    exact ⟨rfl, Ha.out, Kept.refl _ _⟩
  · obtain rfl := hz h0
    have ge : (e == 0) = false := by simpa using h0
    clear h0 hz
    go_enter Try.func32, Try.ntmps32
    go_wp2_with fail
    go_quiet (fail)
    go_wp2_with fail
    go_ret2
    exact ⟨rfl, Ha.out.drewN _, (Kept.refl _ _).drewN _⟩
theorem may_ok {a b i m : Int} (h1 : 0 ≤ a) (h2 : 0 ≤ b) (h3 : 0 ≤ i) (h4 : i ≤ m) : Calls Try.prog 31 #[.agg #[.int .i64 a, .int .i64 b], .int .i64 i, .int .i64 m] w fun e w' => e = .returned (.int .i64 0) ∧ Below w.heap.size w w' := by
  go_enter Try.func31, Try.ntmps31
  go_wp2_with fail
  go_ret
  exact ⟨rfl, (Below.refl _ _).alloc (Nat.le_refl _) _⟩
theorem may_range {a b i m : Int} (h1 : 0 ≤ a) (h2 : 0 ≤ b) (h3 : i < 0 ∨ m < i) : Calls Try.prog 31 #[.agg #[.int .i64 a, .int .i64 b], .int .i64 i, .int .i64 m] w fun e w' => e = .returned (.int .i64 3) ∧ Below w.heap.size w w' := by
  by_cases h : i < 0
  · clear h3
    go_enter Try.func31, Try.ntmps31
    go_wp2_with fail
    go_ret
    exact ⟨rfl, (Below.refl _ _).alloc (Nat.le_refl _) _⟩
  · have h4 : m < i := by omega
    clear h3
    go_enter Try.func31, Try.ntmps31
    go_wp2_with fail
    go_ret
    exact ⟨rfl, (Below.refl _ _).alloc (Nat.le_refl _) _⟩
theorem may_arg {a b i m : Int} (h1 : a < 0 ∨ b < 0) : Calls Try.prog 31 #[.agg #[.int .i64 a, .int .i64 b], .int .i64 i, .int .i64 m] w fun e w' => e = .returned (.int .i64 1) ∧ Below w.heap.size w w' := by
  by_cases h : a < 0
  · clear h1
    go_enter Try.func31, Try.ntmps31
    go_wp2_with fail
    go_ret
    exact ⟨rfl, (Below.refl _ _).alloc (Nat.le_refl _) _⟩
  · have h2 : b < 0 := by omega
    clear h1
    go_enter Try.func31, Try.ntmps31
    go_wp2_with fail
    go_ret
    exact ⟨rfl, (Below.refl _ _).alloc (Nat.le_refl _) _⟩

theorem del_one {h a b : Int} (g : Gd s L) (ha : Tre w K q p s 0) : Calls Try.prog 38 #[.int .i64 h] w (LOut K q p s 0 L w ((fun _ => Tr.nil) (Tr.item a b)) 0) := by
  have Ha := Lib.hid ha
  have G := Lib.hid g
  clear ha g
  go_enter Try.func38, Try.ntmps38
  go_wp2_with fail
  go_ret
  exact ⟨0, s, 0, rfl, Ha.out, Kept.refl _ _, Went.refl s, .inl rfl, G.out.zero, by rw [er_ok]; rfl, fun h => h⟩

/-- The boxes that Set's closure has captured. -/
def SetBoxes (bt bx q : Nat) (a b : Int) (W : World) : Prop := W.cell? ⟨bt, 0, none⟩ = some (.pointer (some ⟨q, 0, none⟩)) ∧ W.cell? ⟨bx, 0, none⟩ = some (.int .i64 a) ∧ W.cell? ⟨bx, 1, none⟩ = some (.int .i64 b)
theorem kept_cell {K : Nat → Prop} {W W' : World} {b o : Nat} {v : Value} (hk : Kept K W W') (hb : K b) (h : W.cell? ⟨b, o, none⟩ = some v) : W'.cell? ⟨b, o, none⟩ = some v :=
  (hk.cell (block_lt_of_cell h) hb).trans h
theorem SetBoxes.kept {bt bx : Nat} {a b : Int} {W W' : World} (h : SetBoxes bt bx q a b W) (hk : Kept K W W') (hK : ∀ y, y = bt ∨ y = bx → K y) : SetBoxes bt bx q a b W' :=
  ⟨kept_cell hk (hK _ (.inl rfl)) h.1, kept_cell hk (hK _ (.inr rfl)) h.2.1, kept_cell hk (hK _ (.inr rfl)) h.2.2⟩
set_option maxHeartbeats 1000000 in
theorem set_one {bt bx : Nat} {h a b x y : Int} (g : Gd s L) (hL : L.length ≤ 700000) (hm : s.made - s.busy ≤ 1000000000) (ra : 0 ≤ x ∧ x ≤ 9223372036854775807) (rb : 0 ≤ y ∧ y ≤ 9223372036854775807) (ha : Tre w K q p s 0) (hb : SetBoxes bt bx q x y w) :
    Calls Try.prog 43 #[.int .i64 h, .pointer (some ⟨bt, 0, none⟩), .pointer (some ⟨bx, 0, none⟩)] w (LOut K q p s 0 L w ((fun _ => Tr.item x y) (Tr.item a b)) 1) := by
  have H := Lib.hid (titem_gen g (.inl rfl) (by omega) hm ra rb ha)
  obtain ⟨c0, c1, c2⟩ := hb
  clear g ha ra rb hm
  go_enter Try.func43, Try.ntmps43
  go_wp2_with fail
  refine H.out.mono ?_
  rintro e w1 ⟨z, s', e', rfl, h2, h3, h4⟩
  go_wp2_with fail
  go_ret
  exact ⟨z, s', e', rfl, h2, h3, h4⟩
/-- The boxes that Insert's closure has captured. -/
def InsBoxes (bt bx bn bi q : Nat) (a b n i : Int) (W : World) : Prop := SetBoxes bt bx q a b W ∧ W.cell? ⟨bn, 0, none⟩ = some (.int .i64 n) ∧ W.cell? ⟨bi, 0, none⟩ = some (.int .i64 i)
theorem InsBoxes.kept {bt bx bn bi : Nat} {a b n i : Int} {W W' : World} (h : InsBoxes bt bx bn bi q a b n i W) (hk : Kept K W W') (hK : ∀ y, y = bt ∨ y = bx ∨ y = bn ∨ y = bi → K y) : InsBoxes bt bx bn bi q a b n i W' :=
  ⟨h.1.kept hk fun y hy => hK y (hy.imp id .inl), kept_cell hk (hK _ (.inr (.inr (.inl rfl)))) h.2.1, kept_cell hk (hK _ (.inr (.inr (.inr rfl)))) h.2.2⟩
set_option maxHeartbeats 1000000 in
theorem ins_none {bt bx bn bi : Nat} {x y i : Int} (g : Gd s L) (hL : L.length ≤ 700000) (hm : s.made - s.busy ≤ 1000000000) (ra : 0 ≤ x ∧ x ≤ 9223372036854775807) (rb : 0 ≤ y ∧ y ≤ 9223372036854775807) (ha : Tre w K q p s 0) (hb : InsBoxes bt bx bn bi q x y 0 i w) (hK : ∀ y, y = bt ∨ y = bx ∨ y = bn ∨ y = bi → K y) :
    Calls Try.prog 34 #[.int .i64 0, .pointer (some ⟨bt, 0, none⟩), .pointer (some ⟨bx, 0, none⟩), .pointer (some ⟨bn, 0, none⟩), .pointer (some ⟨bi, 0, none⟩)] w (LOut K q p s 0 L w (Tr.item x y) 1) := by
  have H := Lib.hid (titem_gen g (.inl rfl) (by omega) hm ra rb ha)
  have Hb := Lib.hid hb
  obtain ⟨⟨c0, c1, c2⟩, c3, c4⟩ := hb
  clear g ha ra rb hm
  go_enter Try.func34, Try.ntmps34
  go_wp2_with fail
  refine H.out.mono ?_
  rintro e w1 ⟨z, s', e', rfl, h2, h3, h4⟩
  obtain ⟨⟨d0, d1, d2⟩, d3, d4⟩ := Hb.out.kept h3 hK
  go_wp2_with fail
  go_ret
  exact ⟨z, s', e', rfl, h2, h3, h4⟩
set_option maxRecDepth 100000 in
set_option maxHeartbeats 4000000 in
theorem ins_one {bt bx bn bi : Nat} {h a b x y n i : Int} (g : Gd s L) (hL : L.length ≤ 600000) (hm : s.made - s.busy ≤ 1000000000) (hx : Has s h (.item a b)) (fm : Firm s L h) (ra : 0 ≤ x ∧ x ≤ 9223372036854775807) (rb : 0 ≤ y ∧ y ≤ 9223372036854775807) (hn : 1 ≤ n) (ha : Tre w K q p s 0) (hb : InsBoxes bt bx bn bi q x y n i w) (hK : ∀ y, y = bt ∨ y = bx ∨ y = bn ∨ y = bi → K y) :
    Calls Try.prog 34 #[.int .i64 h, .pointer (some ⟨bt, 0, none⟩), .pointer (some ⟨bx, 0, none⟩), .pointer (some ⟨bn, 0, none⟩), .pointer (some ⟨bi, 0, none⟩)] w (LOut K q p s 0 L w (insF x y n i (Tr.item a b)) 2) := by
  have H := Lib.hid (titem_gen g (.inl rfl) (by omega) hm ra rb ha)
  have Hb := Lib.hid hb
  have Hx := Lib.hid hx
  have Fm := Lib.hid fm
  have HK := Lib.hid hK
  obtain ⟨⟨c0, c1, c2⟩, c3, c4⟩ := hb
  have hn0 : (n == 0) = false := by simp; omega
  have HMB := Lib.hid hm
  clear g ha ra rb hx fm hK hm
  go_enter Try.func34, Try.ntmps34
  go_wp2_with fail
  refine H.out.mono ?_
  clear H
  rintro e w1 ⟨z, s1, e1, rfl, h2, h3, r1⟩
  obtain ⟨⟨d0, d1, d2⟩, d3, d4⟩ := Hb.out.kept h3 HK.out
  have m1 : s1.made - s1.busy ≤ 1000000000 := by rw [r1.went.md]; exact HMB.out
  have hx1 : Has s1 h (.item a b) := (Fm.out.ext r1.went.ext (L' := z :: L) fun _ hm => List.mem_cons_of_mem _ hm).has (r1.gd.goodb (by simp; omega) m1) (Hx.out.rep.ext r1.went.ext)
  have HKP := fun W hT => Lib.hid (tkeep_gen (w := W) (K := K) (q := q) (p := p) (e := e1) (h := h) r1.gd (by simp; omega) m1 hT)
  have F4 := Lib.hid (keep_facts r1.gd hx1 rfl)
  have M4 := Lib.hid (show (s1.keep h).1.made - (s1.keep h).1.busy ≤ 1000000000 by rw [F4.out.2.md]; exact m1)
  obtain ⟨t1, q1, o1, n1⟩ := r1.rep.er
  have D1 := Lib.hid (show t1.Fine ∧ t1.high ≤ 1 ∧ t1.len ≤ 1 from by
    by_cases c : e1 = 0
    · rw [o1 c]; exact ⟨.inr trivial, Nat.le_refl _, Nat.le_refl _⟩
    · rw [n1 c]; exact ⟨.inl rfl, Nat.zero_le _, Nat.zero_le _⟩)
  have Q1 := Lib.hid q1
  have O1 := Lib.hid o1
  have N1 := Lib.hid n1
  have T1 := Lib.hid h2
  have K1 := Lib.hid h3
  have R1 := Lib.hid r1
  have Hx1 := Lib.hid hx1
  clear h2 h3 r1 hx1 q1 o1 n1 m1 c0 c1 c2 c3 c4
  by_cases hin : i = n
  · have hin' : (i == n) = true := by simpa using hin
    have ef : insF x y n i (Tr.item a b) = tjoin (.item a b) (.item x y) := if_pos hin
    have Ef := Lib.hid ef
    have J1 := Lib.hid (show jcost (.item a b) t1 ≤ 1 from Nat.le_trans (er_cost_right (l := .item a b) O1.out N1.out) (Nat.le_refl 1))
    clear ef hin
    go_wp2_with fail
    go_region_with (first | (go_at_call 37; refine (HKP _ T1.out.drew).out.mono ?_; rintro e w4 ⟨rfl, ha4, hk4⟩; have e0 : w4.cell? ⟨bt, 0, none⟩ = some (.pointer (some ⟨q, 0, none⟩)) := kept_cell hk4 (HK.out _ (.inl rfl)) d0; have T4 := Lib.hid ha4; have Hk4 := Lib.hid hk4; clear ha4 hk4) | (go_at_call 36; refine (tjoin_gen (w := w4) (K := K) (q := q) (p := p) (x := h) (y := z) (L := L) F4.out.1 (eok_went R1.out.eok F4.out.2) (by omega) M4.out (Hx1.out.rep.ext F4.out.2.ext) (Q1.out.ext F4.out.2.ext) (by have := D1.out.2.2; show _ + _ ≤ 100000; first | (show 1 + _ ≤ 100000; omega) | (show _ + 1 ≤ 100000; omega)) (by first | (show 1 ≤ 50; omega) | (have := D1.out.2.1; omega)) (by first | (show 1 ≤ 50; omega) | (have := D1.out.2.1; omega)) (by first | exact .inr trivial | exact D1.out.1) (by first | exact D1.out.1 | exact .inr trivial) (fun c _ _ => by rw [O1.out c]; exact ⟨show 1 ≤ 1 + 2 by omega, show 1 ≤ 1 + 2 by omega⟩) T4.out).mono ?_; rintro e w6 ⟨z6, s6, e6, rfl, ha6, hk6, r6⟩; have T6 := Lib.hid ha6; have Hk6 := Lib.hid hk6; have R6 := Lib.hid r6; clear ha6 hk6 r6))
    all_goals
      go_wp2_with fail
      go_ret
      refine ⟨z6, s6, e6, rfl, T6.out, (K1.out.drew.trans Hk4.out).trans Hk6.out, ?_⟩
      have rr := R1.out.of (LRes.after F4.out.2 R6.out) (t := insF x y n i (Tr.item a b)) fun c => by rw [Ef.out, O1.out c]
      exact rr.mono (by have := J1.out; omega)
  · have hin' : (i == n) = false := by simpa using hin
    have ef : insF x y n i (Tr.item a b) = tjoin (.item x y) (.item a b) := if_neg hin
    have Ef := Lib.hid ef
    have J1 := Lib.hid (show jcost t1 (.item a b) ≤ 1 from Nat.le_trans (er_cost_left (l := .item a b) O1.out N1.out) (Nat.le_refl 1))
    clear ef hin
    go_wp2_with fail
    go_region_with (first | (go_at_call 37; refine (HKP _ T1.out.drew).out.mono ?_; rintro e w4 ⟨rfl, ha4, hk4⟩; have e0 : w4.cell? ⟨bt, 0, none⟩ = some (.pointer (some ⟨q, 0, none⟩)) := kept_cell hk4 (HK.out _ (.inl rfl)) d0; have T4 := Lib.hid ha4; have Hk4 := Lib.hid hk4; clear ha4 hk4) | (go_at_call 36; refine (tjoin_gen (w := w4) (K := K) (q := q) (p := p) (x := z) (y := h) (L := L) F4.out.1.swap (eok_went R1.out.eok F4.out.2) (by omega) M4.out (Q1.out.ext F4.out.2.ext) (Hx1.out.rep.ext F4.out.2.ext) (by have := D1.out.2.2; show _ + _ ≤ 100000; first | (show 1 + _ ≤ 100000; omega) | (show _ + 1 ≤ 100000; omega)) (by first | (show 1 ≤ 50; omega) | (have := D1.out.2.1; omega)) (by first | (show 1 ≤ 50; omega) | (have := D1.out.2.1; omega)) (by first | exact .inr trivial | exact D1.out.1) (by first | exact D1.out.1 | exact .inr trivial) (fun c _ _ => by rw [O1.out c]; exact ⟨show 1 ≤ 1 + 2 by omega, show 1 ≤ 1 + 2 by omega⟩) T4.out).mono ?_; rintro e w6 ⟨z6, s6, e6, rfl, ha6, hk6, r6⟩; have T6 := Lib.hid ha6; have Hk6 := Lib.hid hk6; have R6 := Lib.hid r6; clear ha6 hk6 r6))
    all_goals
      go_wp2_with fail
      go_ret
      refine ⟨z6, s6, e6, rfl, T6.out, (K1.out.drew.trans Hk4.out).trans Hk6.out, ?_⟩
      have rr := R1.out.of (LRes.after F4.out.2 R6.out) (t := insF x y n i (Tr.item a b)) fun c => by rw [Ef.out, O1.out c]
      exact rr.mono (by have := J1.out; omega)
end
end Go.Proofs.Ytcdmebjggdhhdaa
