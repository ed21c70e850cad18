/- Package bits: Insert and Build, with a tree of their own. -/
import Derived.Test.YtjfeocoengheaaaBw11
import Derived.Test.YtjfeocoengheaaaBc
namespace Go.Proofs.Ytjfeocoengheaaa
set_option maxRecDepth 100000
open Go.RowKit

section
variable {K : Nat → Prop} {q p : Nat} {s s' : Ar} {e e' r h : Int} {w : World}
set_option maxHeartbeats 1000000 in
theorem btold_ok (ha : BTre w K q p s 0) :
    Calls Try.prog 31 #[.pointer (some ⟨q, 0, none⟩), .int .i64 h] w fun o w' => o = .returned (.tuple #[.int .i64 h, .int .i64 0]) ∧ BTre w' K q p s 0 ∧ Kept K w w' := by
  have c1 := ha.c1
  have Ha := Lib.hid ha
  clear ha
  go_enter Try.func31, Try.ntmps31
  go_wp2_with fail
  go_ret2
  exact ⟨rfl, Ha.out, Kept.refl _ _⟩
set_option maxHeartbeats 1000000 in
theorem btold_no (he : e ≠ 0) (ha : BTre w K q p s e) :
    Calls Try.prog 31 #[.pointer (some ⟨q, 0, none⟩), .int .i64 h] w fun o w' => o = .returned (.tuple #[.int .i64 0, .int .i64 e]) ∧ BTre w' K q p s e ∧ Kept K w w' := by
  have c1 := ha.c1
  have ge : (e == 0) = false := by simpa using he
  have Ha := Lib.hid ha
  clear ha he
  go_enter Try.func31, Try.ntmps31
  go_wp2_with fail
  go_quiet (fail)
  go_wp2_with fail
  go_ret2
  exact ⟨rfl, Ha.out.drewN _, (Kept.refl _ _).drewN _⟩
theorem btold_is (hz : e ≠ 0 → h = 0) (ha : BTre w K q p s e) :
    Calls Try.prog 31 #[.pointer (some ⟨q, 0, none⟩), .int .i64 h] w fun o w' => o = .returned (.tuple #[.int .i64 h, .int .i64 e]) ∧ BTre w' K q p s e ∧ Kept K w w' := by
  by_cases c : e = 0
  · subst c; exact btold_ok ha
  · rw [hz c]; exact btold_no c ha
/-- A tree of its own. -/
theorem btree_new (ha : Ars w K p s) : BTre (w.alloc (.cells #[.pointer (some ⟨p, 0, none⟩), .int .i64 0] 58)) K w.heap.size p s 0 :=
  ⟨heap_alloc_new _ _, fun hk => by have := ha.lt _ hk; omega, ha.allocK _⟩
theorem btree_end (ha : BTre w K q p s e) : Ars w K p s := ha.ars.more fun _ h => .inl h
set_option maxHeartbeats 2000000 in
theorem bInsert_walk {one : Bool} {i : Nat} {v : View} (H : Ins one s 0 h i s' e' r) (hz : e' ≠ 0 → r = 0) (hv : Vw s h v) (hi : i ≤ v.len) (sn : Snd s) (ha : Ars w K p s) :
    Calls Try.prog 17 #[.pointer (some ⟨p, 0, none⟩), .int .i64 h, .int .i64 i, .bool one] w fun o w' => o = .returned (.tuple #[.int .i64 r, .int .i64 e']) ∧ Ars w' K p s' ∧ Kept K w w' := by
  have HL := Lib.hid (blen_is hv ha sn.fit)
  have hb := hv.big.1
  have HI := fun q w ha => Lib.hid (bins_is (q := q) (p := p) H K w ha)
  have HT := fun q w ha => Lib.hid (btold_is (w := w) (K := K) (q := q) (p := p) (s := s') hz ha)
  have hi1 : (i : Int) ≤ (v.len : Int) := by omega
  have hi2 : (v.len : Int) ≤ 1000000 := by omega
  clear H hz hv hi sn ha hb
  generalize v.len = n at *
  go_enter Try.func17, Try.ntmps17
  go_wp2_with fail
  refine HL.out.mono ?_
  rintro o w1 ⟨rfl, ha1, hk1⟩
  have T1 := Lib.hid (btree_new ha1)
  have K1 := Lib.hid ((Kept.of_below hk1 K).alloc (.cells #[.pointer (some ⟨p, 0, none⟩), .int .i64 0] 58))
  clear ha1 hk1 HL
  go_wp2_with fail
  refine (HI _ _ T1.out).out.mono ?_
  rintro o w2 ⟨rfl, h2, k2⟩
  have T2 := Lib.hid h2
  have K2 := Lib.hid (K1.out.trans k2)
  clear h2 k2
  go_wp2_with fail
  refine (HT _ _ T2.out).out.mono ?_
  rintro o w3 ⟨rfl, h3, k3⟩
  go_wp2_with fail
  go_ret2
  exact ⟨rfl, btree_end h3, K2.out.trans k3⟩
set_option maxHeartbeats 2000000 in
theorem bInsert_no {one : Bool} {i : Int} {v : View} (hv : Vw s h v) (hi : i < 0 ∨ (v.len : Int) < i) (sn : s.Fit) (ha : Ars w K p s) :
    Calls Try.prog 17 #[.pointer (some ⟨p, 0, none⟩), .int .i64 h, .int .i64 i, .bool one] w fun o w' => o = .returned (.tuple #[.int .i64 0, .int .i64 3]) ∧ Ars w' K p s ∧ Below w.heap.size w w' := by
  have HL := Lib.hid (blen_is hv ha sn)
  have hb := hv.big.1
  have Ha := Lib.hid ha
  have hi2 : (v.len : Int) ≤ 1000000 := by omega
  clear hv sn ha hb
  generalize v.len = n at *
  by_cases c : i < 0
  · clear hi
    go_enter Try.func17, Try.ntmps17
    go_wp2_with fail
    go_ret2
    exact ⟨rfl, Ha.out, Below.refl _ _⟩
  · have c' : 0 ≤ i := by omega
    have d : (n : Int) < i := by omega
    clear hi c
    go_enter Try.func17, Try.ntmps17
    go_wp2_with fail
    refine HL.out.mono ?_
    rintro o w1 ⟨rfl, ha1, hk1⟩
    go_wp2_with fail
    go_ret2
    exact ⟨rfl, ha1, hk1⟩
set_option maxHeartbeats 2000000 in
theorem bBuild_walk {l : List Bool} {g off cap : Nat} (H : Build s 0 l ((l.length + 63) / 64) s' e' r) (hz : e' ≠ 0 → r = 0) (hl : 1 ≤ l.length) (hc : l.length ≤ 1000000) (hcap : l.length ≤ cap) (hcap2 : cap ≤ 9223372036854775807) (kg : K g) (hcell : ∀ i, i < l.length → w.cell? ⟨g, off + i, none⟩ = some (.bool (l.getD i false))) (ha : Ars w K p s) :
    Calls Try.prog 12 #[.pointer (some ⟨p, 0, none⟩), .slice (some ⟨g, off, none⟩) l.length cap] w fun o w' => o = .returned (.tuple #[.int .i64 r, .int .i64 e']) ∧ Ars w' K p s' ∧ Kept K w w' := by
  have HI := fun q w ha hc => Lib.hid (bbuild_is (q := q) (p := p) H K w g off cap kg hcap hcap2 hc ha)
  have HT := fun q w ha => Lib.hid (btold_is (w := w) (K := K) (q := q) (p := p) (s := s') hz ha)
  have T1 := Lib.hid (btree_new ha)
  have K1 := Lib.hid ((Kept.refl K w).alloc (.cells #[.pointer (some ⟨p, 0, none⟩), .int .i64 0] 58))
  have C1 := Lib.hid (fun i hi => (((Below.refl _ w).alloc (Nat.le_refl _) (.cells #[.pointer (some ⟨p, 0, none⟩), .int .i64 0] 58)).cell (p := ⟨g, off + i, none⟩) (block_lt_of_cell (hcell i hi))).trans (hcell i hi))
  have h1 : 1 ≤ (l.length : Int) := by omega
  have h2 : (l.length : Int) ≤ 1000000 := by omega
  have h3 : ((l.length : Int) + 63) / 64 = (((l.length + 63) / 64 : Nat) : Int) := rfl
  have h4 : (l.length : Int) + 64 - 1 = (l.length : Int) + 63 := by omega
  generalize (l.length + 63) / 64 = mm at *
  have hne : ((l.length : Int) == 0) = false := beq_eq_false_iff_ne.2 (by omega)
  clear H hz hl hc hcap hcap2 kg hcell ha
  go_enter Try.func12, Try.ntmps12
  go_wp2_with fail
  refine (HI _ _ T1.out C1.out).out.mono ?_
  rintro o w2 ⟨rfl, h2, k2⟩
  have T2 := Lib.hid h2
  have K2 := Lib.hid (K1.out.trans k2)
  clear h2 k2
  go_wp2_with fail
  refine (HT _ _ T2.out).out.mono ?_
  rintro o w3 ⟨rfl, h3, k3⟩
  go_wp2_with fail
  go_ret2
  exact ⟨rfl, btree_end h3, K2.out.trans k3⟩
set_option maxHeartbeats 1000000 in
theorem bBuild_none {a : Option Addr} {c : Nat} :
    Calls Try.prog 12 #[.pointer (some ⟨p, 0, none⟩), .slice a 0 c] w fun o w' => o = .returned (.tuple #[.int .i64 0, .int .i64 0]) ∧ w = w' := by
  go_enter Try.func12, Try.ntmps12
  go_wp2_with fail
  go_ret2
  exact ⟨rfl, rfl⟩
end
end Go.Proofs.Ytjfeocoengheaaa
