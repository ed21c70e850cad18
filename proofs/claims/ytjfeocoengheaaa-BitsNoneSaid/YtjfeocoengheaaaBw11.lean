/- A tree of package bits that makes nodes: a row that is built. -/
import Derived.Test.YtjfeocoengheaaaBw10
namespace Go.Proofs.Ytjfeocoengheaaa
set_option maxRecDepth 100000
open Go.RowKit

section
variable {q p : Nat}
/-- While a leaf is filled. -/
structure Filling (l : List Bool) (w : World) (j : Nat) (W : World) : Prop where
  le : j ≤ l.length
  box : W.heap[w.heap.size]? = some (.cells #[.int .u64 (bN (l.take j)), .int .i64 j] 66 (0, 0))
  below : Below w.heap.size w W
set_option maxRecDepth 100000 in
set_option maxHeartbeats 8000000 in
theorem bbuild_is {s s' : Ar} {e e' r : Int} {l : List Bool} {k : Nat} (hw : Build s e l k s' e' r) : ∀ (K : Nat → Prop) (w : World) (g off cap : Nat), K g → l.length ≤ cap → cap ≤ 9223372036854775807 → (∀ i, i < l.length → w.cell? ⟨g, off + i, none⟩ = some (.bool (l.getD i false))) → BTre w K q p s e →
    Calls Try.prog 32 #[.pointer (some ⟨q, 0, none⟩), .slice (some ⟨g, off, none⟩) l.length cap, .int .i64 k] w fun o w' => o = .returned (.int .i64 r) ∧ BTre w' K q p s' e' ∧ Kept K w w' := by
  induction hw with
  | @leaf s s' e e' r l hl =>
    intro K w g off cap kg hlc hcap hc ha
    have h64 := hl.len
    have L1 := fun w ha => bleaf_is (w := w) (K := K) (q := q) (p := p) hl ha
    replace L1 := fun w ha => Lib.hid (L1 w ha)
    have Ha := Lib.hid ha
    have Hc := Lib.hid hc
    have HN := Lib.hid (And.intro h64 hlc)
    have n1 : (l.length : Int) ≤ 64 := by omega
    have n2 : (l.length : Int) ≤ (cap : Int) := by omega
    have v0 := Lib.hid (show Filling l w 0 (w.alloc (.cells #[.int .u64 0, .int .i64 0] 66)) from ⟨Nat.zero_le _, heap_alloc_new _ _, (Below.refl _ w).alloc (Nat.le_refl _) _⟩)
    have hz : Hid (AtEnd w w.heap.size) := Nat.le_refl _
    clear ha hc h64 hl hlc
    go_enter Try.func32, Try.ntmps32
    go_wp2_with fail
    generalize w.alloc (.cells #[.int .u64 0, .int .i64 0] 66) = w0 at *
    go_loopw [17] (fun i W => ∃ j : Nat, i = .int .i64 j ∧ Filling l w j W) (fun i _ => l.length - (intOf i).toNat)
    case atStart => exact ⟨0, rfl, v0.out⟩
    case round =>
      obtain ⟨j, rfl, hv⟩ := hrel
      clear v0
      have V := Lib.hid hv
      have a0 : wr.cell? ⟨w.heap.size, 0, none⟩ = some (.int .u64 (bN (l.take j))) := cell_of_row _ _ _ _ _ _ hv.box
      have a1 : wr.cell? ⟨w.heap.size, 1, none⟩ = some (.int .i64 j) := cell_of_row _ _ _ _ _ _ hv.box
      have hle := hv.le
      clear hv
      by_cases hlt : j < l.length
      · have hlt' : (j : Int) < (l.length : Int) := by omega
        have hx := (V.out.below.cell (p := ⟨g, off + j, none⟩) (block_lt_of_cell (Hc.out j hlt))).trans (Hc.out j hlt)
        have htl : (l.take j).length = j := by rw [List.length_take]; omega
        have hI := fun w => lins_yes (l.take j) j (l.getD j false) w (by have := HN.out; omega) (by omega)
        rw [ins_succ hlt, htl, show (l.take (j + 1)).length = j + 1 by rw [List.length_take]; omega, show ((j + 1 : Nat) : Int) = (j : Int) + 1 by omega] at hI
        replace hI := fun w => Lib.hid (hI w)
        clear htl
        generalize l.getD j false = b at *
        go_wp2_with fail
        refine (hI _).out.mono ?_
        rintro o w2 ⟨rfl, hk2⟩
        have hb2 := Lib.hid ((hk2.block _ (lt_heap V.out.box)).trans V.out.box)
        have hf2 := Lib.hid (V.out.below.trans (hk2.mono V.out.below.size))
        have s0 : w2.cell? ⟨w.heap.size, 0, none⟩ = some (.int .u64 (bN (l.take j))) := cell_of_row _ _ _ _ _ _ hb2.out
        have s1 : w2.cell? ⟨w.heap.size, 1, none⟩ = some (.int .i64 j) := cell_of_row _ _ _ _ _ _ hb2.out
        have sf : ∀ i, w2.frozen? ⟨w.heap.size, i, none⟩ = false := fun i => frozen_of_row _ _ _ _ _ hb2.out
        clear hk2 a0 a1 hx
        go_wp2_with fail
        go_roundw
        case rel =>
          have hfill : Filling l w (j + 1) ((w2.setCell ⟨w.heap.size, 0, none⟩ (.int .u64 (bN (l.take (j + 1))))).setCell ⟨w.heap.size, 1, none⟩ (.int .i64 ((j : Int) + 1))) := ⟨by omega, by rw [show ((j + 1 : Nat) : Int) = (j : Int) + 1 by omega, heap_setCell_same _ _ _ _ 66 _ (heap_setCell_same _ _ _ _ 66 _ hb2.out)]; rfl, (hf2.out.setCell (p := ⟨w.heap.size, 0, none⟩) hz.out _).setCell (p := ⟨w.heap.size, 1, none⟩) hz.out _⟩
          first | exact ⟨j + 1, by go_num, hfill⟩ | ((repeat apply Exists.intro); exact ⟨⟨j + 1, by go_num, hfill⟩, rfl⟩)
        case measure => simp [intOf]; omega
      · obtain rfl : j = l.length := by omega
        rw [List.take_length] at a0
        have T := Lib.hid (Ha.out.below V.out.below)
        go_wp2_with fail
        refine (L1 _ T.out).out.mono ?_
        rintro o w6 ⟨rfl, h6, k6⟩
        go_wp2_with fail
        go_ret
        exact ⟨rfl, h6, (Kept.of_below V.out.below K).trans k6⟩
  | @fork s s1 s2 s' e e1 e2 e' x y r l k hk1 hk2 hlk hat _ _ hp ih1 ih2 =>
    intro K w g off cap kg hlc hcap hc ha
    have lt1 : (l.take (l.length * (k / 2) / k)).length = l.length * (k / 2) / k := by rw [List.length_take]; omega
    have lt2 : (l.drop (l.length * (k / 2) / k)).length = l.length - l.length * (k / 2) / k := by rw [List.length_drop]
    have H1 := fun W ha hc => ih1 K W g off cap kg (by rw [lt1]; omega) hcap hc ha
    have H2 := fun W ha hc => ih2 K W g (off + l.length * (k / 2) / k) (cap - l.length * (k / 2) / k) kg (by rw [lt2]; omega) (by omega) hc ha
    rw [lt1] at H1
    rw [lt2] at H2
    have HP := fun w ha => Lib.hid (bpairOr_is (w := w) (K := K) (q := q) (p := p) hp ha)
    have c1 : ∀ W : World, Kept K w W → Hid (∀ i, i < l.length * (k / 2) / k → W.cell? ⟨g, off + i, none⟩ = some (.bool ((l.take (l.length * (k / 2) / k)).getD i false))) := fun W hk => Lib.hid fun i hi => by
      have h := hc i (by omega)
      rw [World.cell?_of_block (hk.block g (block_lt_of_cell h) kg), h]
      simp [List.getD, hi]
    have c2 : ∀ W : World, Kept K w W → Hid (∀ i, i < l.length - l.length * (k / 2) / k → W.cell? ⟨g, off + l.length * (k / 2) / k + i, none⟩ = some (.bool ((l.drop (l.length * (k / 2) / k)).getD i false))) := fun W hk => Lib.hid fun i hi => by
      have h := hc (l.length * (k / 2) / k + i) (by omega)
      rw [← Nat.add_assoc] at h
      rw [World.cell?_of_block (hk.block g (block_lt_of_cell h) kg), h]
      simp [List.getD]
    have m1 : (k : Int) / 2 = ((k / 2 : Nat) : Int) := by omega
    have m2 : ((l.length : Int) * ((k / 2 : Nat) : Int)) = ((l.length * (k / 2) : Nat) : Int) := by rw [Int.natCast_mul]
    have m4 : l.length * (k / 2) ≤ 640000000000 := by
      have h1 : l.length ≤ 6400000 := by omega
      have h2 : k / 2 ≤ 100000 := by omega
      exact Nat.le_trans (Nat.mul_le_mul h1 h2) (by decide)
    have m3 : ((l.length * (k / 2) : Nat) : Int) / (k : Int) = ((l.length * (k / 2) / k : Nat) : Int) := rfl
    generalize hmul : l.length * (k / 2) = mul at *
    generalize hatt : mul / k = at_ at *
    generalize hlow : k / 2 = low at *
    have hlow1 : low ≤ k := by omega
    have m5 : (k : Int) - (low : Int) = ((k - low : Nat) : Int) := by omega
    have m6 : ((l.length - at_ : Nat) : Int) = (l.length : Int) - (at_ : Int) := by omega
    have Ha := Lib.hid ha
    have b1 : (k : Int) ≤ 100000 := by omega
    have b2 : (2 : Int) ≤ (k : Int) := by omega
    have b3 : (at_ : Int) ≤ (l.length : Int) := by omega
    have b4 : (l.length : Int) ≤ (cap : Int) := by omega
    have b5 : at_ < cap := by omega
    have b6 : (mul : Int) ≤ 640000000000 := by omega
    have b7 : (low : Int) ≤ (k : Int) := by omega
    have b8 : (l.length : Int) ≤ 6400000 := by omega
    have b9 : (cap : Int) ≤ 9223372036854775807 := by omega
    have hne : ¬ cap = at_ := by omega
    clear ha hc ih1 ih2 hp lt1 lt2 hk1 hk2 hlk hat hmul hatt hlow hlow1 hlc hcap m4
    have M1 := Lib.hid m1
    have M2 := Lib.hid m2
    have M3 := Lib.hid m3
    have M5 := Lib.hid m5
    have M6 := Lib.hid m6
    clear m1 m2 m3 m5 m6
    go_enter Try.func32, Try.ntmps32
    go_upto_region 9 with fail
    have m1 := M1.out
    have m2 := M2.out
    have m3 := M3.out
    have m5 := M5.out
    go_wp2_with fail
    refine (H1 w Ha.out (c1 w (Kept.refl K w)).out).mono ?_
    rintro o w3 ⟨rfl, h3, k3⟩
    have T3 := Lib.hid h3
    have K3 := Lib.hid k3
    have C2 := Lib.hid (c2 w3 k3)
    clear h3 k3
    have m6 := M6.out
    go_wp2_with fail
    refine (H2 w3 T3.out C2.out).mono ?_
    rintro o w4 ⟨rfl, h4, k4⟩
    have T4 := Lib.hid h4
    have K4 := Lib.hid (K3.out.trans k4)
    clear h4 k4
    go_wp2_with fail
    refine (HP _ T4.out).out.mono ?_
    rintro o w5 ⟨rfl, h5, k5⟩
    go_wp2_with fail
    go_ret
    exact ⟨rfl, h5, K4.out.trans k5⟩
end
end Go.Proofs.Ytjfeocoengheaaa
