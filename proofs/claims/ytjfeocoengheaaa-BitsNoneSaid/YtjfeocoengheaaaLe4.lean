/- Package leaf: a bit more, a bit less; the place of one of those that are alike. -/
import Derived.Test.YtjfeocoengheaaaLe3
import Derived.Test.YtjfeocoengheaaaBt
namespace Go.Proofs.Ytjfeocoengheaaa
set_option maxRecDepth 100000
open Go.RowKit

theorem al2_1 (w : World) (a b : Obj) : ((w.alloc a).alloc b).heap[w.heap.size + 1]? = some b := by
  have := heap_alloc_new (w.alloc a) b
  simpa using this
set_option maxHeartbeats 4000000 in
theorem lins_yes (l : List Bool) (i : Nat) (one : Bool) (w : World) (h : l.length < 64) (hi : i ≤ l.length) :
    Calls Try.prog 47 #[.agg #[.int .u64 (bN l), .int .i64 l.length], .int .i64 i, .bool one] w fun e w' =>
      e = .returned (.tuple #[.agg #[.int .u64 (bN (bIns l i one)), .int .i64 ((bIns l i one).length : Nat)], .bool true]) ∧ Below w.heap.size w w' := by
  have HR := fun w => Lib.hid (right_is l w (by omega))
  have HS := fun w => Lib.hid (lsplit_is l i w (by omega) hi)
  have lt : (l.take i).length = i := by rw [List.length_take]; omega
  have hset := Lib.hid (bits_set (a := l.take i) (by omega))
  have ha1 : (l.take i ++ [one]).length = i + 1 := by rw [List.length_append, lt]; rfl
  have ha2 : (l.drop i).length = l.length - i := by rw [List.length_drop]
  have HJ := fun w => ljoin_yes (l.take i ++ [one]) (l.drop i) w (by omega)
  have he : l.take i ++ [one] ++ l.drop i = bIns l i one := by unfold bIns; rw [List.append_assoc]; rfl
  rw [he, ha1, ha2] at HJ
  have hlen := bIns_len (b := one) hi
  have hw : ((i + 1 : Nat) : Int) = (i : Int) + 1 := by omega
  have hz : (i + 1 + (l.length - i) : Nat) = l.length + 1 := by omega
  rw [hw, hz] at HJ
  replace HJ := fun w => Lib.hid (HJ w)
  rw [lt] at hset
  rw [hlen]
  have hB : one = false → Hid ((bN (l.take i) : Int) = (bN (l.take i ++ [one]) : Int)) := fun e => by rw [e]; exact Lib.hid (by rw [bN_zero])
  have hA : one = true → Hid (bits BinOp.or IntKind.u64 (bN (l.take i) : Int) (IntKind.u64.wrap ((1 : Int) * 2 ^ i)) = (bN (l.take i ++ [one]) : Int)) := fun e => by rw [e]; exact hset
  clear hset
  have hn0 : (i : Int) ≤ (l.length : Int) := by omega
  have hn1 : (l.length : Int) < 64 := by omega
  have hne : ((l.length : Int) == 64) = false := by simp; omega
  generalize bN (bIns l i one) = Z at *
  generalize (bN (l.take i ++ [one]) : Int) = Y at *
  generalize (bN (l.take i) : Int) = X at *
  generalize (bN (l.drop i) : Int) = U at *
  generalize (bN l : Int) = V at *
  generalize l.length - i = d at *
  generalize l.length = n at *
  clear lt ha1 ha2 he hlen hw hz
  cases one
  · have hB := (hB rfl).out
    rw [← hB] at HJ
    clear hA hB
    go_enter Try.func47, Try.ntmps47
    go_wp2_with fail
    have hx0 := heap_alloc_new w (.cells #[.int .u64 V, .int .i64 n] 66)
    refine (HR _).out.mono ?_
    rintro e w1 ⟨rfl, hb⟩
    have hx1 := (hb.block w.heap.size (by simp; omega)).trans ((Below.heap_alloc _ _ _ (by simp)).trans hx0)
    have hz1 := (hb.block (w.heap.size + 1) (by simp)).trans (al2_1 w (.cells #[.int .u64 V, .int .i64 n] 66) (.cells #[.int .u64 0, .int .i64 0] 66))
    have hf1 := Lib.hid ((((Below.refl w.heap.size w).alloc (Nat.le_refl _) (.cells #[.int .u64 V, .int .i64 n] 66)).alloc (by simp) (.cells #[.int .u64 0, .int .i64 0] 66)).trans (hb.mono (by simp; omega)))
    have hs1 : w.heap.size + 1 < w1.heap.size := by have h : _ ≤ w1.heap.size := hb.size; simp at h; omega
    have c0 : w1.cell? ⟨w.heap.size, 0, none⟩ = some (.int .u64 V) := cell_of_row _ _ _ _ _ _ hx1
    have c1 : w1.cell? ⟨w.heap.size, 1, none⟩ = some (.int .i64 n) := cell_of_row _ _ _ _ _ _ hx1
    clear hb hx0
    go_wp2_with fail
    refine (HS _).out.mono ?_
    rintro e w2 ⟨rfl, hb⟩
    replace hz1 := (hb.block _ (by omega)).trans hz1
    have hf2 := Lib.hid (hf1.out.trans (hb.mono (by omega)))
    have hs2 : w.heap.size + 1 < w2.heap.size := Nat.lt_of_lt_of_le hs1 hb.size
    clear hb hx1 hf1 c0 c1 hs1
    go_wp2_with fail
    refine (HJ _).out.mono ?_
    rintro e w3 ⟨rfl, hb⟩
    have hw2 : ∀ a b : Obj, ((w2.alloc a).alloc b).heap[w.heap.size + 1]? = w2.heap[w.heap.size + 1]? := fun a b => (Below.heap_alloc _ _ _ (by simp; omega)).trans (Below.heap_alloc _ _ _ hs2)
    replace hz1 := ((hb.block (w.heap.size + 1) (by simp; omega)).trans (hw2 _ _)).trans hz1
    have hf3 := Lib.hid (((hf2.out.alloc (by omega) _).alloc (by simp; omega) _).trans (hb.mono (by simp; omega)))
    have e0 : w3.cell? ⟨w.heap.size + 1, 0, none⟩ = some (.int .u64 0) := cell_of_row _ _ _ _ _ _ hz1
    have e1 : w3.cell? ⟨w.heap.size + 1, 1, none⟩ = some (.int .i64 0) := cell_of_row _ _ _ _ _ _ hz1
    have ef : ∀ j, w3.frozen? ⟨w.heap.size + 1, j, none⟩ = false := fun j => frozen_of_row _ _ _ _ _ hz1
    clear hb hw2
    go_wp2_with fail
    refine bodyPost_ret (v := .tuple #[.agg #[.int .u64 Z, .int .i64 ((n : Int) + 1)], .bool true]) (by simp [results, Try.results47, go_sem, e0, e1]) rfl ⟨rfl, ?_⟩
    exact (hf3.out.setCell (p := ⟨w.heap.size + 1, 0, none⟩) (by show w.heap.size ≤ w.heap.size + 1; omega) _).setCell (p := ⟨w.heap.size + 1, 1, none⟩) (by show w.heap.size ≤ w.heap.size + 1; omega) _
  · have hA := (hA rfl).out
    rw [Int.one_mul] at hA
    rw [← hA] at HJ
    clear hA hB
    go_enter Try.func47, Try.ntmps47
    go_wp2_with fail
    have hx0 := heap_alloc_new w (.cells #[.int .u64 V, .int .i64 n] 66)
    refine (HR _).out.mono ?_
    rintro e w1 ⟨rfl, hb⟩
    have hx1 := (hb.block w.heap.size (by simp; omega)).trans ((Below.heap_alloc _ _ _ (by simp)).trans hx0)
    have hz1 := (hb.block (w.heap.size + 1) (by simp)).trans (al2_1 w (.cells #[.int .u64 V, .int .i64 n] 66) (.cells #[.int .u64 0, .int .i64 0] 66))
    have hf1 := Lib.hid ((((Below.refl w.heap.size w).alloc (Nat.le_refl _) (.cells #[.int .u64 V, .int .i64 n] 66)).alloc (by simp) (.cells #[.int .u64 0, .int .i64 0] 66)).trans (hb.mono (by simp; omega)))
    have hs1 : w.heap.size + 1 < w1.heap.size := by have h : _ ≤ w1.heap.size := hb.size; simp at h; omega
    have c0 : w1.cell? ⟨w.heap.size, 0, none⟩ = some (.int .u64 V) := cell_of_row _ _ _ _ _ _ hx1
    have c1 : w1.cell? ⟨w.heap.size, 1, none⟩ = some (.int .i64 n) := cell_of_row _ _ _ _ _ _ hx1
    clear hb hx0
    go_wp2_with fail
    refine (HS _).out.mono ?_
    rintro e w2 ⟨rfl, hb⟩
    replace hz1 := (hb.block _ (by omega)).trans hz1
    have hf2 := Lib.hid (hf1.out.trans (hb.mono (by omega)))
    have hs2 : w.heap.size + 1 < w2.heap.size := Nat.lt_of_lt_of_le hs1 hb.size
    clear hb hx1 hf1 c0 c1 hs1
    go_wp2_with fail
    go_region
    go_wp2_with fail
    refine (HJ _).out.mono ?_
    rintro e w3 ⟨rfl, hb⟩
    have hw2 : ∀ a b : Obj, ((w2.alloc a).alloc b).heap[w.heap.size + 1]? = w2.heap[w.heap.size + 1]? := fun a b => (Below.heap_alloc _ _ _ (by simp; omega)).trans (Below.heap_alloc _ _ _ hs2)
    replace hz1 := ((hb.block (w.heap.size + 1) (by simp; omega)).trans (hw2 _ _)).trans hz1
    have hf3 := Lib.hid (((hf2.out.alloc (by omega) _).alloc (by simp; omega) _).drew.trans (hb.mono (by simp; omega)))
    have e0 : w3.cell? ⟨w.heap.size + 1, 0, none⟩ = some (.int .u64 0) := cell_of_row _ _ _ _ _ _ hz1
    have e1 : w3.cell? ⟨w.heap.size + 1, 1, none⟩ = some (.int .i64 0) := cell_of_row _ _ _ _ _ _ hz1
    have ef : ∀ j, w3.frozen? ⟨w.heap.size + 1, j, none⟩ = false := fun j => frozen_of_row _ _ _ _ _ hz1
    clear hb hw2
    go_wp2_with fail
    refine bodyPost_ret (v := .tuple #[.agg #[.int .u64 Z, .int .i64 ((n : Int) + 1)], .bool true]) (by simp [results, Try.results47, go_sem, e0, e1]) rfl ⟨rfl, ?_⟩
    exact (hf3.out.setCell (p := ⟨w.heap.size + 1, 0, none⟩) (by show w.heap.size ≤ w.heap.size + 1; omega) _).setCell (p := ⟨w.heap.size + 1, 1, none⟩) (by show w.heap.size ≤ w.heap.size + 1; omega) _
set_option maxHeartbeats 2000000 in
theorem lins_no (l : List Bool) (i : Nat) (one : Bool) (w : World) (h : l.length = 64) (hi : i ≤ l.length) :
    Calls Try.prog 47 #[.agg #[.int .u64 (bN l), .int .i64 l.length], .int .i64 i, .bool one] w fun e w' =>
      e = .returned (.tuple #[.agg #[.int .u64 0, .int .i64 0], .bool false]) ∧ Below w.heap.size w w' := by
  have HR := fun w => Lib.hid (right_is l w (by omega))
  have hn0 : (i : Int) ≤ (l.length : Int) := by omega
  have hne : ((l.length : Int) == 64) = true := by simp; omega
  generalize (bN l : Int) = V at *
  have hn1 : (l.length : Int) ≤ 64 := by omega
  clear h
  generalize l.length = n at *
  go_enter Try.func47, Try.ntmps47
  go_wp2_with fail
  have hx0 := heap_alloc_new w (.cells #[.int .u64 V, .int .i64 n] 66)
  refine (HR _).out.mono ?_
  rintro e w1 ⟨rfl, hb⟩
  have hx1 := (hb.block w.heap.size (by simp; omega)).trans ((Below.heap_alloc _ _ _ (by simp)).trans hx0)
  have hz1 := (hb.block (w.heap.size + 1) (by simp)).trans (al2_1 w (.cells #[.int .u64 V, .int .i64 n] 66) (.cells #[.int .u64 0, .int .i64 0] 66))
  have hf1 := Lib.hid ((((Below.refl w.heap.size w).alloc (Nat.le_refl _) (.cells #[.int .u64 V, .int .i64 n] 66)).alloc (by simp) (.cells #[.int .u64 0, .int .i64 0] 66)).trans (hb.mono (by simp; omega)))
  have hs1 : w.heap.size + 1 < w1.heap.size := by have h : _ ≤ w1.heap.size := hb.size; simp at h; omega
  have c0 : w1.cell? ⟨w.heap.size, 0, none⟩ = some (.int .u64 V) := cell_of_row _ _ _ _ _ _ hx1
  have c1 : w1.cell? ⟨w.heap.size, 1, none⟩ = some (.int .i64 n) := cell_of_row _ _ _ _ _ _ hx1
  have e0 : w1.cell? ⟨w.heap.size + 1, 0, none⟩ = some (.int .u64 0) := cell_of_row _ _ _ _ _ _ hz1
  have e1 : w1.cell? ⟨w.heap.size + 1, 1, none⟩ = some (.int .i64 0) := cell_of_row _ _ _ _ _ _ hz1
  have ef : ∀ j, w1.frozen? ⟨w.heap.size + 1, j, none⟩ = false := fun j => frozen_of_row _ _ _ _ _ hz1
  clear hb hx0 hx1 hz1
  go_wp2_with fail
  refine bodyPost_ret (v := .tuple #[.agg #[.int .u64 0, .int .i64 0], .bool false]) (by simp [results, Try.results47, go_sem, e0, e1]) rfl ⟨rfl, ?_⟩
  exact (hf1.out.setCell (p := ⟨w.heap.size + 1, 0, none⟩) (by show w.heap.size ≤ w.heap.size + 1; omega) _).setCell (p := ⟨w.heap.size + 1, 1, none⟩) (by show w.heap.size ≤ w.heap.size + 1; omega) _
set_option maxHeartbeats 4000000 in
theorem ldel_is (l : List Bool) (i : Nat) (w : World) (h : l.length ≤ 64) (hi : i < l.length) :
    Calls Try.prog 56 #[.agg #[.int .u64 (bN l), .int .i64 l.length], .int .i64 i] w fun e w' =>
      e = .returned (.tuple #[.agg #[.int .u64 (bN (bDel l i)), .int .i64 ((bDel l i).length : Nat)], .bool true]) ∧ Below w.heap.size w w' := by
  have HR := fun w => Lib.hid (right_is l w (by omega))
  have HS := fun w => Lib.hid (lsplit_is l i w (by omega) (by omega))
  have lt : (l.take i).length = i := by rw [List.length_take]; omega
  have ld : (l.drop i).length = l.length - i := by rw [List.length_drop]
  have HT := fun w => lsplit_is (l.drop i) 1 w (by omega) (by omega)
  rw [ld, List.drop_drop] at HT
  have ha2 : (l.drop (i + 1)).length = l.length - i - 1 := by rw [List.length_drop]; omega
  have HJ := fun w => ljoin_yes (l.take i) (l.drop (i + 1)) w (by omega)
  have he : l.take i ++ l.drop (i + 1) = bDel l i := rfl
  have hlen := bDel_len hi
  rw [he, lt, ha2, show i + (l.length - i - 1) = (bDel l i).length by omega] at HJ
  replace HJ := fun w => Lib.hid (HJ w)
  replace HT := fun w => Lib.hid (HT w)
  have hn0 : (i : Int) < (l.length : Int) := by omega
  have hn1 : (l.length : Int) ≤ 64 := by omega
  generalize (bDel l i).length = q at *
  generalize bN (bDel l i) = Z at *
  generalize (bN (l.take i) : Int) = X at *
  generalize (bN (l.drop (i + 1)) : Int) = Y at *
  generalize (bN (l.drop i) : Int) = U at *
  generalize (bN ((l.drop i).take 1) : Int) = R at *
  generalize (bN l : Int) = V at *
  generalize hd : l.length - i - 1 = d' at *
  generalize l.length - i = d at *
  generalize l.length = n at *
  clear lt ld ha2 he hlen hd
  go_enter Try.func56, Try.ntmps56
  go_wp2_with fail
  have hx0 := heap_alloc_new w (.cells #[.int .u64 V, .int .i64 n] 66)
  refine (HR _).out.mono ?_
  rintro e w1 ⟨rfl, hb⟩
  have hx1 := (hb.block w.heap.size (by simp; omega)).trans ((Below.heap_alloc _ _ _ (by simp)).trans hx0)
  have hz1 := (hb.block (w.heap.size + 1) (by simp)).trans (al2_1 w (.cells #[.int .u64 V, .int .i64 n] 66) (.cells #[.int .u64 0, .int .i64 0] 66))
  have hf1 := Lib.hid ((((Below.refl w.heap.size w).alloc (Nat.le_refl _) (.cells #[.int .u64 V, .int .i64 n] 66)).alloc (by simp) (.cells #[.int .u64 0, .int .i64 0] 66)).trans (hb.mono (by simp; omega)))
  have hs1 : w.heap.size + 1 < w1.heap.size := by have h : _ ≤ w1.heap.size := hb.size; simp at h; omega
  have c0 : w1.cell? ⟨w.heap.size, 0, none⟩ = some (.int .u64 V) := cell_of_row _ _ _ _ _ _ hx1
  have c1 : w1.cell? ⟨w.heap.size, 1, none⟩ = some (.int .i64 n) := cell_of_row _ _ _ _ _ _ hx1
  clear hb hx0
  go_wp2_with fail
  refine (HS _).out.mono ?_
  rintro e w2 ⟨rfl, hb⟩
  replace hz1 := (hb.block _ (by omega)).trans hz1
  have hf2 := Lib.hid (hf1.out.trans (hb.mono (by omega)))
  have hs2 : w.heap.size + 1 < w2.heap.size := Nat.lt_of_lt_of_le hs1 hb.size
  clear hb hx1 hf1 c0 c1 hs1
  go_wp2_with fail
  refine (HT _).out.mono ?_
  rintro e w3 ⟨rfl, hb⟩
  have hw2 : ∀ a b : Obj, ((w2.alloc a).alloc b).heap[w.heap.size + 1]? = w2.heap[w.heap.size + 1]? := fun a b => (Below.heap_alloc _ _ _ (by simp; omega)).trans (Below.heap_alloc _ _ _ hs2)
  replace hz1 := ((hb.block (w.heap.size + 1) (by simp; omega)).trans (hw2 _ _)).trans hz1
  have hp1 := (hb.block w2.heap.size (by simp; omega)).trans ((Below.heap_alloc _ _ _ (by simp)).trans (heap_alloc_new w2 (.cells #[.int .u64 X, .int .i64 i] 66)))
  have hq1 := (hb.block (w2.heap.size + 1) (by simp)).trans (al2_1 w2 (.cells #[.int .u64 X, .int .i64 i] 66) (.cells #[.int .u64 U, .int .i64 d] 66))
  have hf3 := Lib.hid (((hf2.out.alloc (by omega) (.cells #[.int .u64 X, .int .i64 i] 66)).alloc (by simp; omega) (.cells #[.int .u64 U, .int .i64 d] 66)).trans (hb.mono (by simp; omega)))
  have r1 : w.heap.size + 1 ≠ w2.heap.size := by omega
  have r2 : w.heap.size + 1 ≠ w2.heap.size + 1 := by omega
  have r3 : w2.heap.size ≠ w2.heap.size + 1 := by omega
  have r4 : w.heap.size ≤ w2.heap.size + 1 := by omega
  have r5 : w.heap.size ≤ w.heap.size + 1 := by omega
  have hs3 : w2.heap.size + 1 < w3.heap.size := by have h : _ ≤ w3.heap.size := hb.size; simp at h; omega
  clear hb hw2
  generalize hg1 : w2.heap.size + 1 = b3 at *
  generalize hg2 : w2.heap.size = b2 at *
  generalize hg3 : w.heap.size + 1 = b1 at *
  have x0 : w3.cell? ⟨b2, 0, none⟩ = some (.int .u64 X) := cell_of_row _ _ _ _ _ _ hp1
  have x1 : w3.cell? ⟨b2, 1, none⟩ = some (.int .i64 i) := cell_of_row _ _ _ _ _ _ hp1
  have y0 : w3.cell? ⟨b3, 0, none⟩ = some (.int .u64 U) := cell_of_row _ _ _ _ _ _ hq1
  have y1 : w3.cell? ⟨b3, 1, none⟩ = some (.int .i64 d) := cell_of_row _ _ _ _ _ _ hq1
  have yf : ∀ j, w3.frozen? ⟨b3, j, none⟩ = false := fun j => frozen_of_row _ _ _ _ _ hq1
  go_wp2_with fail
  refine (HJ _).out.mono ?_
  rintro e w4 ⟨rfl, hb⟩
  have hz4 := (hb.block b1 (by simp [World.setCell]; omega)).trans (((heap_setCell_other _ _ _ _ r2).trans (heap_setCell_other _ _ _ _ r2)).trans hz1)
  have hf4 := Lib.hid (((hf3.out.setCell (p := ⟨b3, 0, none⟩) r4 (.int .u64 Y)).setCell (p := ⟨b3, 1, none⟩) r4 (.int .i64 d')).trans (hb.mono (by simp [World.setCell]; omega)))
  clear hb
  have e0 : w4.cell? ⟨b1, 0, none⟩ = some (.int .u64 0) := cell_of_row _ _ _ _ _ _ hz4
  have e1 : w4.cell? ⟨b1, 1, none⟩ = some (.int .i64 0) := cell_of_row _ _ _ _ _ _ hz4
  have ef : ∀ j, w4.frozen? ⟨b1, j, none⟩ = false := fun j => frozen_of_row _ _ _ _ _ hz4
  go_wp2_with fail
  refine bodyPost_ret (v := .tuple #[.agg #[.int .u64 Z, .int .i64 q], .bool true]) (by simp [results, Try.results56, go_sem, e0, e1]) rfl ⟨rfl, ?_⟩
  exact (hf4.out.setCell (p := ⟨b1, 0, none⟩) r5 _).setCell (p := ⟨b1, 1, none⟩) r5 _
/-- The place of the k-th of those that are alike. -/
def bsel : List Bool → Bool → Nat → Nat
  | [], _, _ => 0
  | b :: r, one, k => if b = one then (if k = 0 then 0 else 1 + bsel r one (k - 1)) else 1 + bsel r one k
theorem bsel_eq : ∀ (l : List Bool) (one : Bool) (k j : Nat), (l.take j).count one = k → j < l.length → l.getD j false = one → bsel l one k = j
  | [], _, _, _, _, h, _ => absurd h (Nat.not_lt_zero _)
  | b :: r, one, k, 0, h, _, e => by
    have h : 0 = k := by simpa using h
    have e : b = one := e
    unfold bsel
    rw [if_pos e, if_pos h.symm]
  | b :: r, one, k, j + 1, h, hj, e => by
    have hj : j < r.length := by simpa using hj
    have e : r.getD j false = one := by simpa [List.getD] using e
    rw [List.take_succ_cons, List.count_cons] at h
    unfold bsel
    by_cases c : b = one
    · rw [if_pos (by simpa using c)] at h
      rw [if_pos c, if_neg (by omega), bsel_eq r one (k - 1) j (by omega) hj e, Nat.add_comm]
    · rw [if_neg (by simpa using c)] at h
      rw [if_neg c, bsel_eq r one k j (by omega) hj e, Nat.add_comm]
theorem bsel_is : ∀ (l : List Bool) (one : Bool) (k : Nat), k < l.count one → bsel l one k < l.length ∧ l.getD (bsel l one k) false = one ∧ (l.take (bsel l one k)).count one = k
  | [], _, _, h => absurd h (by simp)
  | b :: r, one, k, h => by
    unfold bsel
    rw [List.count_cons] at h
    by_cases c : b = one
    · rw [if_pos (by simpa using c)] at h
      rw [if_pos c]
      by_cases z : k = 0
      · rw [if_pos z]
        exact ⟨by simp, c, by simp [z]⟩
      · rw [if_neg z]
        obtain ⟨a1, a2, a3⟩ := bsel_is r one (k - 1) (by omega)
        rw [Nat.add_comm]
        refine ⟨by simp; omega, by simpa [List.getD] using a2, ?_⟩
        rw [List.take_succ_cons, List.count_cons, if_pos (by simpa using c), a3]
        omega
    · rw [if_neg (by simpa using c)] at h
      rw [if_neg c]
      obtain ⟨a1, a2, a3⟩ := bsel_is r one k (by omega)
      rw [Nat.add_comm]
      refine ⟨by simp; omega, by simpa [List.getD] using a2, ?_⟩
      rw [List.take_succ_cons, List.count_cons, if_neg (by simpa using c), a3]
      omega
end Go.Proofs.Ytjfeocoengheaaa
