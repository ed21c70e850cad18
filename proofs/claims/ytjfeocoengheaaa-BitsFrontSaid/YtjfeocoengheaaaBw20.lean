/- A tree of package bits that makes nodes: two leaves made one or two; a leaf's bits more. -/
import Derived.Test.YtjfeocoengheaaaBw10
namespace Go.Proofs.Ytjfeocoengheaaa
set_option maxRecDepth 100000
open Go.RowKit

section
variable {q p : Nat}
set_option maxRecDepth 100000 in
set_option maxHeartbeats 4000000 in
theorem bhalves_call {K : Nat → Prop} {w : World} {s s' : Ar} {e e' r : Int} {a b : List Bool} (hh : Halves s e a b s' e' r) (ha : BTre w K q p s e) :
    Calls Try.prog 81 #[.pointer (some ⟨q, 0, none⟩), .agg #[.int .u64 (bN a), .int .i64 a.length], .agg #[.int .u64 (bN b), .int .i64 b.length]] w fun o w' => o = .returned (.int .i64 r) ∧ BTre w' K q p s' e' ∧ Kept K w w' := by
  cases hh with
  | one h1 h2 h3 hl =>
    have HJ := fun w => Lib.hid (ljoin_yes a b w h3)
    have HL := fun w ha => bleaf_is (w := w) (K := K) (q := q) (p := p) hl ha
    rw [List.length_append] at HL
    replace HL := fun w ha => Lib.hid (HL w ha)
    have Ha := Lib.hid ha
    clear h1 h2 h3 hl ha
    generalize (bN (a ++ b) : Int) = X at *
    go_enter Try.func81, Try.ntmps81
    go_wp2_with fail
    refine (HJ _).out.mono ?_
    rintro o w1 ⟨rfl, hk1⟩
    have B1 := Lib.hid (((((Below.refl w.heap.size w).alloc (Nat.le_refl _) (.cells #[.int .u64 (bN a), .int .i64 a.length] 66)).alloc (by simp) (.cells #[.int .u64 (bN b), .int .i64 b.length] 66)).trans (hk1.mono (by simp; omega))).alloc (by have := hk1.size; simp at this; omega) (.cells #[.int .u64 X, .int .i64 (a.length + b.length : Nat)] 66))
    clear hk1 HJ
    go_wp2_with fail
    refine (HL _ (Ha.out.below B1.out)).out.mono ?_
    rintro o w2 ⟨rfl, h2, k2⟩
    go_wp2_with fail
    go_ret
    exact ⟨rfl, h2, (Kept.of_below B1.out K).trans k2⟩
  | two h1 h2 h3 hl1 hl2 hp =>
    have hlen : (a ++ b).length = a.length + b.length := List.length_append
    have e1 : (a ++ b).take a.length = a := List.take_left' rfl
    have e2 : (a ++ b).drop a.length = b := List.drop_left' rfl
    have := bhalves_two (K := K) (w := w) (q := q) (p := p) (l := a ++ b) (n := a.length) (m := b.length) (by rw [e1]) (by rw [e2]) hlen.symm h1 h2 (by omega) (by rw [hlen]; exact hl1) (by rw [hlen]; exact hl2) hp ha
    rw [e1, e2] at this
    exact this
end
end Go.Proofs.Ytjfeocoengheaaa
