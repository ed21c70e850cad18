/- What the closures of Insert, Delete and Set make of one item; whether there may be an item at a place; what is told. -/
import Derived.Test.YtlnnljkifdmmlaaL13
import Derived.Test.YtlnnljkifdmmlaaL14
import Derived.Test.YtlnnljkifdmmlaaL15
namespace Go.Proofs.Ytlnnljkifdmmlaa
open Go.RowKit

section
variable {K : Nat → Prop} {q p : Nat} {s : Ar} {B : Int} {L : List Int} {w : World}
set_option maxHeartbeats 1000000 in
theorem told_ok (h : Int) (ha : Tre w K q p s 0) : Calls Try.prog 31 #[.pointer (some ⟨q, 0, none⟩), .int .i64 h] w fun e w' => e = .returned (.tuple #[.int .i64 h, .int .i64 0]) ∧ w = w' := by
  have c1 := ha.c1
  clear ha
  go_enter Try.func31, Try.ntmps31
  go_wp2_with fail
  go_ret2
  exact ⟨rfl, rfl⟩
theorem may_ok {a b i m : Int} (h1 : 0 ≤ a) (h2 : 0 ≤ b) (h3 : 0 ≤ i) (h4 : i ≤ m) : Calls Try.prog 30 #[.agg #[.int .i64 a, .int .i64 b], .int .i64 i, .int .i64 m] w fun e w' => e = .returned (.int .i64 0) ∧ Below w.heap.size w w' := by
  go_enter Try.func30, Try.ntmps30
  go_wp2_with fail
  go_ret
  exact ⟨rfl, (Below.refl _ _).alloc (Nat.le_refl _) _⟩
theorem may_range {a b i m : Int} (h1 : 0 ≤ a) (h2 : 0 ≤ b) (h3 : i < 0 ∨ m < i) : Calls Try.prog 30 #[.agg #[.int .i64 a, .int .i64 b], .int .i64 i, .int .i64 m] w fun e w' => e = .returned (.int .i64 3) ∧ Below w.heap.size w w' := by
  by_cases h : i < 0
  · clear h3
    go_enter Try.func30, Try.ntmps30
    go_wp2_with fail
    go_ret
    exact ⟨rfl, (Below.refl _ _).alloc (Nat.le_refl _) _⟩
  · have h4 : m < i := by omega
    clear h3
    go_enter Try.func30, Try.ntmps30
    go_wp2_with fail
    go_ret
    exact ⟨rfl, (Below.refl _ _).alloc (Nat.le_refl _) _⟩
theorem may_arg {a b i m : Int} (h1 : a < 0 ∨ b < 0) : Calls Try.prog 30 #[.agg #[.int .i64 a, .int .i64 b], .int .i64 i, .int .i64 m] w fun e w' => e = .returned (.int .i64 1) ∧ Below w.heap.size w w' := by
  by_cases h : a < 0
  · clear h1
    go_enter Try.func30, Try.ntmps30
    go_wp2_with fail
    go_ret
    exact ⟨rfl, (Below.refl _ _).alloc (Nat.le_refl _) _⟩
  · have h2 : b < 0 := by omega
    clear h1
    go_enter Try.func30, Try.ntmps30
    go_wp2_with fail
    go_ret
    exact ⟨rfl, (Below.refl _ _).alloc (Nat.le_refl _) _⟩

theorem del_one {h a b : Int} (g : Good s B L) (ha : Tre w K q p s 0) : Calls Try.prog 41 #[.int .i64 h] w (Leaves K q p s (B + 50) L w ((fun _ => Tr.nil) (Tr.item a b)) 0) := by
  have Ha := Lib.hid ha
  have G := Lib.hid g
  clear ha g
  go_enter Try.func41, Try.ntmps41
  go_wp2_with fail
  go_ret
  exact ⟨0, s, rfl, Ha.out, Kept.refl _ _, (G.out.mono (by omega)).zero, Ext.refl s, rfl, by omega⟩

/-- The boxes that Set's closure has captured. -/
def SetBoxes (bt bx q : Nat) (a b : Int) (W : World) : Prop := W.cell? ⟨bt, 0, none⟩ = some (.pointer (some ⟨q, 0, none⟩)) ∧ W.cell? ⟨bx, 0, none⟩ = some (.int .i64 a) ∧ W.cell? ⟨bx, 1, none⟩ = some (.int .i64 b)
theorem kept_cell {K : Nat → Prop} {W W' : World} {b o : Nat} {v : Value} (hk : Kept K W W') (hb : K b) (h : W.cell? ⟨b, o, none⟩ = some v) : W'.cell? ⟨b, o, none⟩ = some v :=
  (hk.cell (block_lt_of_cell h) hb).trans h
theorem SetBoxes.kept {bt bx : Nat} {a b : Int} {W W' : World} (h : SetBoxes bt bx q a b W) (hk : Kept K W W') (hK : ∀ y, y = bt ∨ y = bx → K y) : SetBoxes bt bx q a b W' :=
  ⟨kept_cell hk (hK _ (.inl rfl)) h.1, kept_cell hk (hK _ (.inr rfl)) h.2.1, kept_cell hk (hK _ (.inr rfl)) h.2.2⟩
set_option maxHeartbeats 1000000 in
theorem set_one {bt bx : Nat} {h a b x y : Int} (g : Good s B L) (hB : B ≤ 100000000) (ra : 0 ≤ x ∧ x ≤ 9223372036854775807) (rb : 0 ≤ y ∧ y ≤ 9223372036854775807) (hr : s.busy < s.n) (ha : Tre w K q p s 0) (hb : SetBoxes bt bx q x y w) :
    Calls Try.prog 37 #[.int .i64 h, .pointer (some ⟨bt, 0, none⟩), .pointer (some ⟨bx, 0, none⟩)] w (Leaves K q p s (B + 50) L w ((fun _ => Tr.item x y) (Tr.item a b)) 1) := by
  have H := Lib.hid (titem_is g hB ra rb hr ha)
  obtain ⟨c0, c1, c2⟩ := hb
  clear g ha ra rb hr
  go_enter Try.func37, Try.ntmps37
  go_wp2_with fail
  refine H.out.mono ?_
  rintro e w1 ⟨z, s', rfl, h2, h3, h4, h5, h6, h7⟩
  go_wp2_with fail
  go_ret
  exact ⟨z, s', rfl, h2, h3, h4.mono (by omega), h5, h6, by omega⟩
/-- The boxes that Insert's closure has captured. -/
def InsBoxes (bt bx bn bi q : Nat) (a b n i : Int) (W : World) : Prop := SetBoxes bt bx q a b W ∧ W.cell? ⟨bn, 0, none⟩ = some (.int .i64 n) ∧ W.cell? ⟨bi, 0, none⟩ = some (.int .i64 i)
theorem InsBoxes.kept {bt bx bn bi : Nat} {a b n i : Int} {W W' : World} (h : InsBoxes bt bx bn bi q a b n i W) (hk : Kept K W W') (hK : ∀ y, y = bt ∨ y = bx ∨ y = bn ∨ y = bi → K y) : InsBoxes bt bx bn bi q a b n i W' :=
  ⟨h.1.kept hk fun y hy => hK y (hy.imp id .inl), kept_cell hk (hK _ (.inr (.inr (.inl rfl)))) h.2.1, kept_cell hk (hK _ (.inr (.inr (.inr rfl)))) h.2.2⟩
/-- What is put ahead of an item, or behind the last. -/
def insF (x y n i : Int) (t : Tr) : Tr := if i = n then tjoin t (.item x y) else tjoin (.item x y) t
set_option maxHeartbeats 1000000 in
theorem ins_none {bt bx bn bi : Nat} {x y i : Int} (g : Good s B L) (hB : B ≤ 100000000) (ra : 0 ≤ x ∧ x ≤ 9223372036854775807) (rb : 0 ≤ y ∧ y ≤ 9223372036854775807) (hr : s.busy < s.n) (ha : Tre w K q p s 0) (hb : InsBoxes bt bx bn bi q x y 0 i w) (hK : ∀ y, y = bt ∨ y = bx ∨ y = bn ∨ y = bi → K y) :
    Calls Try.prog 33 #[.int .i64 0, .pointer (some ⟨bt, 0, none⟩), .pointer (some ⟨bx, 0, none⟩), .pointer (some ⟨bn, 0, none⟩), .pointer (some ⟨bi, 0, none⟩)] w (Leaves K q p s (B + 50) L w (Tr.item x y) 1) := by
  have H := Lib.hid (titem_is g hB ra rb hr ha)
  have Hb := Lib.hid hb
  obtain ⟨⟨c0, c1, c2⟩, c3, c4⟩ := hb
  clear g ha ra rb hr
  go_enter Try.func33, Try.ntmps33
  go_wp2_with fail
  refine H.out.mono ?_
  rintro e w1 ⟨z, s', rfl, h2, h3, h4, h5, h6, h7⟩
  obtain ⟨⟨d0, d1, d2⟩, d3, d4⟩ := Hb.out.kept h3 hK
  go_wp2_with fail
  go_ret
  exact ⟨z, s', rfl, h2, h3, h4.mono (by omega), h5, h6, by omega⟩
set_option maxRecDepth 100000 in
set_option maxHeartbeats 4000000 in
theorem ins_one {bt bx bn bi : Nat} {h a b x y n i : Int} (g : Good s B L) (hB : B ≤ 5000000) (hx : Has s h (.item a b)) (fm : Firm s L h) (ra : 0 ≤ x ∧ x ≤ 9223372036854775807) (rb : 0 ≤ y ∧ y ≤ 9223372036854775807) (hn : 1 ≤ n) (hr : s.busy + 4 ≤ s.n) (ha : Tre w K q p s 0) (hb : InsBoxes bt bx bn bi q x y n i w) (hK : ∀ y, y = bt ∨ y = bx ∨ y = bn ∨ y = bi → K y) :
    Calls Try.prog 33 #[.int .i64 h, .pointer (some ⟨bt, 0, none⟩), .pointer (some ⟨bx, 0, none⟩), .pointer (some ⟨bn, 0, none⟩), .pointer (some ⟨bi, 0, none⟩)] w (Leaves K q p s (B + 50) L w (insF x y n i (Tr.item a b)) 4) := by
  have H := Lib.hid (titem_is g (by omega) ra rb (by omega) ha)
  have Hb := Lib.hid hb
  have Hx := Lib.hid hx
  have Fm := Lib.hid fm
  have HK := Lib.hid hK
  obtain ⟨⟨c0, c1, c2⟩, c3, c4⟩ := hb
  have hn0 : (n == 0) = false := by simp; omega
  clear g ha ra rb hx fm hK
  go_enter Try.func33, Try.ntmps33
  go_wp2_with fail
  refine H.out.mono ?_
  clear H
  rintro e w1 ⟨z, s1, rfl, h2, h3, h4, h5, h6, h7⟩
  obtain ⟨⟨d0, d1, d2⟩, d3, d4⟩ := Hb.out.kept h3 HK.out
  have hx1 : Has s1 h (.item a b) := (Fm.out.ext h5 (L' := z :: L) fun _ hm => List.mem_cons_of_mem _ hm).has h4 (Hx.out.rep.ext h5)
  have HKP := fun W hT => Lib.hid (tkeep_good (w := W) (K := K) (q := q) (p := p) (e := 0) h4 (by omega) hx1 rfl hT)
  have T1 := Lib.hid h2
  have K1 := Lib.hid h3
  have E1 := Lib.hid h5
  have R1 := Lib.hid h6
  have B1 := Lib.hid h7
  have Hx1 := Lib.hid hx1
  clear h2 h3 h5 h6 h7 hx1 c0 c1 c2 c3 c4 h4
  by_cases hin : i = n
  · have hin' : (i == n) = true := by simpa using hin
    have ef : insF x y n i (Tr.item a b) = tjoin (.item a b) (.item x y) := if_pos hin
    have Ef := Lib.hid ef
    clear ef hin
    go_wp2_with fail
    go_region_with (first | (go_at_call 36; refine (HKP _ T1.out.drew).out.mono ?_; rintro e w4 ⟨s4, rfl, ha4, hk4, g4, e4, b4⟩; have e0 : w4.cell? ⟨bt, 0, none⟩ = some (.pointer (some ⟨q, 0, none⟩)) := kept_cell hk4 (HK.out _ (.inl rfl)) d0; have T4 := Lib.hid ha4; have Hk4 := Lib.hid hk4; have G4 := Lib.hid g4; have E4 := Lib.hid e4; have B4 := Lib.hid b4; clear ha4 hk4 g4 e4 b4) | (go_at_call 35; refine (tjoin_good (w := w4) (K := K) (q := q) (p := p) (x := h) (y := z) G4.out (by omega) (Hx1.out.rep.ext E4.out) (R1.out.ext E4.out) (show 1 + 1 ≤ 1000 by omega) (show 1 ≤ 50 by omega) (show 1 ≤ 50 by omega) (.inr trivial) (.inr trivial) (fun _ _ => ⟨show 1 ≤ 1 + 2 by omega, show 1 ≤ 1 + 2 by omega⟩) (by rw [B4.out, B1.out, E4.out.n, E1.out.n]; omega) T4.out).mono ?_; rintro e w6 ⟨z6, s6, rfl, ha6, hk6, g6, e6, r6, b6⟩; have T6 := Lib.hid ha6; have Hk6 := Lib.hid hk6; have G6 := Lib.hid g6; have E6 := Lib.hid e6; have R6 := Lib.hid r6; have B6 := Lib.hid b6; clear ha6 hk6 g6 e6 r6 b6))
    all_goals
      go_wp2_with fail
      go_ret
      have b1 := B1.out
      have b4 := B4.out
      have b6 := B6.out
      exact ⟨z6, s6, rfl, T6.out, (K1.out.drew.trans Hk4.out).trans Hk6.out, G6.out.mono (by omega), (E1.out.trans E4.out).trans E6.out, by rw [Ef.out]; exact R6.out, by omega⟩
  · have hin' : (i == n) = false := by simpa using hin
    have ef : insF x y n i (Tr.item a b) = tjoin (.item x y) (.item a b) := if_neg hin
    have Ef := Lib.hid ef
    clear ef hin
    go_wp2_with fail
    go_region_with (first | (go_at_call 36; refine (HKP _ T1.out.drew).out.mono ?_; rintro e w4 ⟨s4, rfl, ha4, hk4, g4, e4, b4⟩; have e0 : w4.cell? ⟨bt, 0, none⟩ = some (.pointer (some ⟨q, 0, none⟩)) := kept_cell hk4 (HK.out _ (.inl rfl)) d0; have T4 := Lib.hid ha4; have Hk4 := Lib.hid hk4; have G4 := Lib.hid g4; have E4 := Lib.hid e4; have B4 := Lib.hid b4; clear ha4 hk4 g4 e4 b4) | (go_at_call 35; refine (tjoin_good (w := w4) (K := K) (q := q) (p := p) (x := z) (y := h) G4.out.swap (by omega) (R1.out.ext E4.out) (Hx1.out.rep.ext E4.out) (show 1 + 1 ≤ 1000 by omega) (show 1 ≤ 50 by omega) (show 1 ≤ 50 by omega) (.inr trivial) (.inr trivial) (fun _ _ => ⟨show 1 ≤ 1 + 2 by omega, show 1 ≤ 1 + 2 by omega⟩) (by rw [B4.out, B1.out, E4.out.n, E1.out.n]; omega) T4.out).mono ?_; rintro e w6 ⟨z6, s6, rfl, ha6, hk6, g6, e6, r6, b6⟩; have T6 := Lib.hid ha6; have Hk6 := Lib.hid hk6; have G6 := Lib.hid g6; have E6 := Lib.hid e6; have R6 := Lib.hid r6; have B6 := Lib.hid b6; clear ha6 hk6 g6 e6 r6 b6))
    all_goals
      go_wp2_with fail
      go_ret
      have b1 := B1.out
      have b4 := B4.out
      have b6 := B6.out
      exact ⟨z6, s6, rfl, T6.out, (K1.out.drew.trans Hk4.out).trans Hk6.out, G6.out.mono (by omega), (E1.out.trans E4.out).trans E6.out, by rw [Ef.out]; exact R6.out, by omega⟩
end
end Go.Proofs.Ytlnnljkifdmmlaa
