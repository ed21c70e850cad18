/- The first call that the statements of sweep make: it answers true. -/
import Derived.Test.YtjndhjmbdhfclaaSw8
import Derived.Test.YtjndhjmbdhfclaaA8
namespace Go.Proofs.Ytjndhjmbdhfclaa
set_option maxRecDepth 100000
open Go.RowKit

def sv1 : Ar := (Ar.new 5).put (Ar.new 5).free ⟨1, 0, 0, 0, 0, 0, 0⟩
def sv2 : Ar := sv1.put sv1.free ⟨2, 1, 0, 0, 0, 0, 0⟩
theorem ints_new (w : World) (xs : List Int) (ty : TypeId) : Ints (w.alloc (.cells (xs.map (Value.int .i64)).toArray ty)) (.slice (some ⟨w.heap.size, 0, none⟩) xs.length xs.length) xs :=
  .inr ⟨_, 0, _, rfl, by simp, Nat.le_refl _, fun j hj => cell_new rfl (by simp [hj])⟩
section
variable {K : Nat → Prop} {p : Nat} {s : Ar} {w : World} {B : Int} {H : Nat → Nat}
theorem audit_w {v : Value} {held : List Int} {b : Bool} (hs : auditSees s held = b) (ha : Ars w K p s) (ok : s.Ok B) (hB : B ≤ 1000000000000) (acc : Acc s H) (hv : Ints w v held) (hl : held.length ≤ 100000) (hr : ∀ x, x ∈ held → 0 ≤ x ∧ x ≤ 1000000) :
    Calls Try.prog 36 #[.pointer (some ⟨p, 0, none⟩), v] w fun e w' => e = .returned (.bool b) ∧ Below w.heap.size w w' := by
  rw [← hs]
  have := ok.n2
  exact audit_is ha (ok.fit (by omega)) (by omega) hv hl hr ok.fr fun i hi k hk => by have := acc.kids i hi k hk; omega
end
theorem sv2_rch {x : Int} (h : Rch sv2 [1] x) : x = 1 := by
  induction h with
  | root h1 _ => simpa using h1
  | kid _ h2 h3 ih =>
    subst ih
    have e : (sv2.nd (1 : Int).toNat).kids = [0, 0, 0, 0] := rfl
    rw [e] at h2
    simp only [List.mem_cons, List.not_mem_nil, or_false, or_self] at h2
    subst h2
    exact absurd rfl h3
theorem sv2_lost {ys : List Int} (h : ∀ x, x ∈ ys ↔ Rch sv2 ([1] ++ waitTo sv2 sv2.n) x) : ((liveTo sv2 sv2.n).filter fun h => !ys.contains h) = [2] := by
  rw [show waitTo sv2 sv2.n = [] from rfl, List.append_nil] at h
  have h1 : (1 : Int) ∈ ys := (h 1).2 (.root (by simp) (by decide))
  have h2 : ¬ (2 : Int) ∈ ys := fun e => by have := sv2_rch ((h 2).1 e); omega
  rw [show liveTo sv2 sv2.n = [1, 2] from rfl]
  simp [h1, h2]
set_option maxHeartbeats 2000000 in
theorem alive19 (w : World) : Calls Try.prog 34 #[] w fun e w' => e = .returned (.bool true) ∧ Below w.heap.size w w' := by
  have k0 : (Ar.new 5).Ok 0 := ok_new (by decide) (by decide)
  have k1 : sv1.Ok 4 := ok_make (x := ⟨1, 0, 0, 0, 0, 0, 0⟩) k0
  have k2 : sv2.Ok 8 := ok_make (x := ⟨2, 1, 0, 0, 0, 0, 0⟩) k1
  have a0 := acc_new 5
  have a1 := acc_put a0 k0 (x := ⟨1, 0, 0, 0, 0, 0, 0⟩) (by decide) (by decide)
  have a2 : Acc sv2 _ := acc_put (s := sv1) a1 k1 (x := ⟨2, 1, 0, 0, 0, 0, 0⟩) (by decide) (by decide)
  obtain ⟨K, hK⟩ : ∃ K : Nat → Prop, K = fun b => b < w.heap.size := ⟨_, rfl⟩
  have HK := Lib.hid hK
  have K1 := Lib.hid k1
  have K2 := Lib.hid k2
  have K0 := Lib.hid k0
  have A0 := Lib.hid a0
  have A2 := Lib.hid a2
  clear hK k0 k1 k2 a0 a1 a2
  go_enter Try.func34, Try.ntmps34
  go_wp2_with fail
  refine (new_yes 5 w (by decide) (by decide)).mono ?_
  rintro e w1 ⟨p, rfl, hb, ha⟩
  replace ha := ha K (fun _ h => by rw [HK.out] at h; exact h)
  have Hk := Lib.hid (Kept.of_below hb K)
  clear hb
  have H := Lib.hid (audit_w (b := true) (held := []) rfl ha K0.out (by decide) A0.out (.inl ⟨rfl, rfl⟩) (by simp) (fun x hx => by cases hx))
  have Ha := Lib.hid ha
  clear ha
  go_wp2_with fail
  refine H.out.mono ?_
  clear H
  rintro e w1' ⟨rfl, hb⟩
  have ha := Ha.out.below hb
  replace Hk := Lib.hid (Hk.out.trans (Kept.of_below hb K))
  clear hb Ha
  have H := Lib.hid (make_is (s' := sv1) (h := 1) (e := 0) ⟨1, 0, 0, 0, 0, 0, 0⟩ rfl ha K0.out (by decide))
  clear ha
  go_wp2_with fail
  refine H.out.mono ?_
  clear H
  rintro e w2 ⟨rfl, ha, hk⟩
  replace Hk := Lib.hid (Hk.out.trans hk)
  clear hk
  have H := Lib.hid (make_is (s' := sv2) (h := 2) (e := 0) ⟨2, 1, 0, 0, 0, 0, 0⟩ rfl ha K1.out (by decide))
  clear ha
  go_wp2_with fail
  refine H.out.mono ?_
  clear H
  rintro e w3 ⟨rfl, ha, hk⟩
  replace Hk := Lib.hid (Hk.out.trans hk)
  clear hk
  have Ha := Lib.hid ha
  have R := Lib.hid ((Below.refl w3.heap.size w3))
  clear ha
  have b4 := R.out.alloc (Nat.le_refl _) (.cells #[.int .i64 1, .int .i64 2] 3)
  have H := Lib.hid (audit_w (b := true) (held := [1, 2]) rfl (Ha.out.below b4) K2.out (by decide) A2.out (ints_new w3 [1, 2] 3) (by simp) (fun x hx => by simp at hx; omega))
  have B4 := Lib.hid b4
  clear b4 R
  go_wp2_with fail
  refine H.out.mono ?_
  clear H
  rintro e w5 ⟨rfl, hb⟩
  have b5 := B4.out.trans (hb.mono B4.out.size)
  have b6 := b5.alloc b5.size (.cells #[.int .i64 2] 3)
  have H := Lib.hid (audit_w (b := false) (held := [2]) rfl (Ha.out.below b6) K2.out (by decide) A2.out (ints_new w5 [2] 3) (by simp) (fun x hx => by simp at hx; omega))
  have B6 := Lib.hid b6
  clear hb b5 b6 B4
  go_wp2_with fail
  refine H.out.mono ?_
  clear H
  rintro e w7 ⟨rfl, hb⟩
  have b7 := B6.out.trans (hb.mono B6.out.size)
  have b8 := b7.alloc b7.size (.cells #[.int .i64 1] 3)
  have H := Lib.hid (leaks_is (held := [1]) (Ha.out.below b8) (K2.out.fit (by decide)) (by decide) (ints_new w7 [1] 3) (by simp))
  have B8 := Lib.hid b8
  clear hb b7 b8 B6
  go_wp2_with fail
  refine H.out.mono ?_
  clear H
  rintro e w9 ⟨v9, ys, Ko, rfl, hl, _, hys, hb⟩
  rw [sv2_lost hys] at hl
  obtain ⟨a9, c9, rfl⟩ := hl.slice
  have b9 := B8.out.trans (hb.mono B8.out.size)
  have b10 := b9.alloc b9.size (.cells #[.int .i64 2] 3)
  have H := Lib.hid (same_ints_is (hl.ints.below ((Below.refl w9.heap.size w9).alloc (Nat.le_refl _) (.cells #[.int .i64 2] 3))) (ints_new w9 [2] 3) (by simp))
  have B10 := Lib.hid b10
  clear hb b9 b10 B8 hl hys
  go_wp2_with fail
  refine H.out.mono ?_
  clear H
  rintro e w11 ⟨rfl, q, rfl⟩
  have b11 := Go.Proofs.below_drewN' B10.out q
  have H := Lib.hid (live_is (Ha.out.below b11) (K2.out.fit (by decide)))
  have B11 := Lib.hid b11
  clear b11 B10
  go_wp2_with fail
  refine H.out.mono ?_
  clear H
  rintro e w12 ⟨v12, K12, rfl, hl, _, hb⟩
  rw [show liveTo sv2 sv2.n = [1, 2] from rfl] at hl
  obtain ⟨a12, c12, rfl⟩ := hl.slice
  have b12 := B11.out.trans (hb.mono B11.out.size)
  have b13 := b12.alloc b12.size (.cells #[.int .i64 1, .int .i64 2] 3)
  have H := Lib.hid (same_ints_is (hl.ints.below ((Below.refl w12.heap.size w12).alloc (Nat.le_refl _) (.cells #[.int .i64 1, .int .i64 2] 3))) (ints_new w12 [1, 2] 3) (by simp))
  have B13 := Lib.hid b13
  clear hb b12 b13 B11 hl
  go_wp2_with fail
  refine H.out.mono ?_
  clear H
  rintro e w14 ⟨rfl, q', rfl⟩
  go_wp2_with fail
  go_ret
  exact ⟨rfl, (Hk.out.trans (Kept.of_below (Go.Proofs.below_drewN' B13.out q') K)).below fun b hb => by rw [HK.out]; exact hb⟩
end Go.Proofs.Ytjndhjmbdhfclaa
