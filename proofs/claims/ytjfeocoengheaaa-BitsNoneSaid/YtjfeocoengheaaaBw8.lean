/- A tree of package bits that makes nodes: a fork in balance. -/
import Derived.Test.YtjfeocoengheaaaBw7
namespace Go.Proofs.Ytjfeocoengheaaa
set_option maxRecDepth 100000
open Go.RowKit

section
variable {K : Nat → Prop} {q p : Nat} {s s' : Ar} {e e' r x y : Int} {w : World}
set_option maxRecDepth 100000 in
set_option maxHeartbeats 8000000 in
theorem bfork_walk (hf : Fork s e x y s' e' r) (ha : BTre w K q p s e) :
    Calls Try.prog 54 #[.pointer (some ⟨q, 0, none⟩), .int .i64 x, .int .i64 y] w fun o w' => o = .returned (.int .i64 r) ∧ BTre w' K q p s' e' ∧ Kept K w w' := by
  have g1 := ha.c1
  cases hf with
  | err e0 sn =>
    have T0 := Lib.hid ha
    have K0 := Lib.hid (Kept.refl K w)
    have ge : (e == 0) = false := by simpa using e0
    have SN := Lib.hid sn
    clear e0 sn
    clear ha
    go_enter Try.func54, Try.ntmps54
    go_wp2_with fail
    refine ((bdrop2 (x := x) (y := y) SN.out T0.out)).mono ?_
    rintro o w1 ⟨rfl, t, k⟩
    have T1 := Lib.hid t
    have K1 := Lib.hid (K0.out.trans k)
    clear t k T0 K0
    go_wp2_with fail
    go_ret
    exact ⟨rfl, T1.out, K1.out⟩
  | @even P Q _ _ _ e0 sn H1 H2 b1 b2 c1 c2 hp =>
    have T0 := Lib.hid ha
    have K0 := Lib.hid (Kept.refl K w)
    subst e0
    have h_sn := Lib.hid sn
    have h_H1 := Lib.hid H1
    have h_H2 := Lib.hid H2
    have h_hp := Lib.hid hp
    clear sn H1 H2 hp
    have d1 : (P : Int) ≤ (Q : Int) + 1 := by omega
    have d2 : (Q : Int) ≤ (P : Int) + 1 := by omega
    have d3 : (P : Int) ≤ 1000 := by omega
    have d4 : (Q : Int) ≤ 1000 := by omega
    clear b1 b2 c1 c2
    clear ha
    go_enter Try.func54, Try.ntmps54
    go_wp2_with fail
    refine ((bhigh_is h_sn.out h_H1.out _ (T0.out))).mono ?_
    rintro o w1 ⟨rfl, t, k⟩
    have T1 := Lib.hid t
    have K1 := Lib.hid (K0.out.trans (Kept.of_below k K))
    clear t k T0 K0
    go_wp2_with fail
    refine ((bhigh_is h_sn.out h_H2.out _ (T1.out))).mono ?_
    rintro o w2 ⟨rfl, t, k⟩
    have T2 := Lib.hid t
    have K2 := Lib.hid (K1.out.trans (Kept.of_below k K))
    clear t k T1 K1
    go_wp2_with fail
    refine ((bpair_is h_hp.out T2.out)).mono ?_
    rintro o w3 ⟨rfl, t, k⟩
    have T3 := Lib.hid t
    have K3 := Lib.hid (K2.out.trans k)
    clear t k T2 K2
    go_wp2_with fail
    go_ret
    exact ⟨rfl, T3.out, K3.out⟩
  | @l1 P Q A B u v s1 s2 _ e2 _ z _ e0 sn H1 H2 b1 b2 c1 ho sn1 H3 H4 b3 b4 c2 hp1 hp2 =>
    have T0 := Lib.hid ha
    have K0 := Lib.hid (Kept.refl K w)
    subst e0
    have h_sn := Lib.hid sn
    have h_H1 := Lib.hid H1
    have h_H2 := Lib.hid H2
    have h_ho := Lib.hid ho
    have h_sn1 := Lib.hid sn1
    have h_H3 := Lib.hid H3
    have h_H4 := Lib.hid H4
    have h_hp1 := Lib.hid hp1
    have h_hp2 := Lib.hid hp2
    clear sn H1 H2 ho sn1 H3 H4 hp1 hp2
    have d1 : (Q : Int) + 1 < (P : Int) := by omega
    have d2 : (B : Int) ≤ (A : Int) := by omega
    have d3 : (P : Int) ≤ 1000 := by omega
    have d4 : (Q : Int) ≤ 1000 := by omega
    have d5 : (A : Int) ≤ 1000 := by omega
    have d6 : (B : Int) ≤ 1000 := by omega
    clear b1 b2 c1 b3 b4 c2
    clear ha
    go_enter Try.func54, Try.ntmps54
    go_wp2_with fail
    refine ((bhigh_is h_sn.out h_H1.out _ (T0.out))).mono ?_
    rintro o w1 ⟨rfl, t, k⟩
    have T1 := Lib.hid t
    have K1 := Lib.hid (K0.out.trans (Kept.of_below k K))
    clear t k T0 K0
    go_wp2_with fail
    refine ((bhigh_is h_sn.out h_H2.out _ (T1.out))).mono ?_
    rintro o w2 ⟨rfl, t, k⟩
    have T2 := Lib.hid t
    have K2 := Lib.hid (K1.out.trans (Kept.of_below k K))
    clear t k T1 K1
    go_wp2_with fail
    refine ((bopen_is h_ho.out T2.out)).mono ?_
    rintro o w3 ⟨rfl, t, k⟩
    have T3 := Lib.hid t
    have K3 := Lib.hid (K2.out.trans k)
    clear t k T2 K2
    go_wp2_with fail
    refine ((bhigh_is h_sn1.out h_H3.out _ (T3.out))).mono ?_
    rintro o w4 ⟨rfl, t, k⟩
    have T4 := Lib.hid t
    have K4 := Lib.hid (K3.out.trans (Kept.of_below k K))
    clear t k T3 K3
    go_wp2_with fail
    refine ((bhigh_is h_sn1.out h_H4.out _ (T4.out))).mono ?_
    rintro o w5 ⟨rfl, t, k⟩
    have T5 := Lib.hid t
    have K5 := Lib.hid (K4.out.trans (Kept.of_below k K))
    clear t k T4 K4
    go_wp2_with fail
    refine ((bpair_is h_hp1.out T5.out)).mono ?_
    rintro o w6 ⟨rfl, t, k⟩
    have T6 := Lib.hid t
    have K6 := Lib.hid (K5.out.trans k)
    clear t k T5 K5
    go_wp2_with fail
    refine ((bpair_is h_hp2.out T6.out)).mono ?_
    rintro o w7 ⟨rfl, t, k⟩
    have T7 := Lib.hid t
    have K7 := Lib.hid (K6.out.trans k)
    clear t k T6 K6
    go_wp2_with fail
    go_ret
    exact ⟨rfl, T7.out, K7.out⟩
  | @l2 P Q A B u v b c s1 s2 s3 s4 _ e3 e4 _ z1 z2 _ e0 sn H1 H2 b1 b2 c1 ho sn1 H3 H4 b3 b4 c2 ho2 hp1 hp2 hp3 =>
    have T0 := Lib.hid ha
    have K0 := Lib.hid (Kept.refl K w)
    subst e0
    have h_sn := Lib.hid sn
    have h_H1 := Lib.hid H1
    have h_H2 := Lib.hid H2
    have h_ho := Lib.hid ho
    have h_sn1 := Lib.hid sn1
    have h_H3 := Lib.hid H3
    have h_H4 := Lib.hid H4
    have h_ho2 := Lib.hid ho2
    have h_hp1 := Lib.hid hp1
    have h_hp2 := Lib.hid hp2
    have h_hp3 := Lib.hid hp3
    clear sn H1 H2 ho sn1 H3 H4 ho2 hp1 hp2 hp3
    have d1 : (Q : Int) + 1 < (P : Int) := by omega
    have d2 : (A : Int) < (B : Int) := by omega
    have d3 : (P : Int) ≤ 1000 := by omega
    have d4 : (Q : Int) ≤ 1000 := by omega
    have d5 : (A : Int) ≤ 1000 := by omega
    have d6 : (B : Int) ≤ 1000 := by omega
    clear b1 b2 c1 b3 b4 c2
    clear ha
    go_enter Try.func54, Try.ntmps54
    go_wp2_with fail
    refine ((bhigh_is h_sn.out h_H1.out _ (T0.out))).mono ?_
    rintro o w1 ⟨rfl, t, k⟩
    have T1 := Lib.hid t
    have K1 := Lib.hid (K0.out.trans (Kept.of_below k K))
    clear t k T0 K0
    go_wp2_with fail
    refine ((bhigh_is h_sn.out h_H2.out _ (T1.out))).mono ?_
    rintro o w2 ⟨rfl, t, k⟩
    have T2 := Lib.hid t
    have K2 := Lib.hid (K1.out.trans (Kept.of_below k K))
    clear t k T1 K1
    go_wp2_with fail
    refine ((bopen_is h_ho.out T2.out)).mono ?_
    rintro o w3 ⟨rfl, t, k⟩
    have T3 := Lib.hid t
    have K3 := Lib.hid (K2.out.trans k)
    clear t k T2 K2
    go_wp2_with fail
    refine ((bhigh_is h_sn1.out h_H3.out _ (T3.out))).mono ?_
    rintro o w4 ⟨rfl, t, k⟩
    have T4 := Lib.hid t
    have K4 := Lib.hid (K3.out.trans (Kept.of_below k K))
    clear t k T3 K3
    go_wp2_with fail
    refine ((bhigh_is h_sn1.out h_H4.out _ (T4.out))).mono ?_
    rintro o w5 ⟨rfl, t, k⟩
    have T5 := Lib.hid t
    have K5 := Lib.hid (K4.out.trans (Kept.of_below k K))
    clear t k T4 K4
    go_wp2_with fail
    refine ((bopen_is h_ho2.out T5.out)).mono ?_
    rintro o w6 ⟨rfl, t, k⟩
    have T6 := Lib.hid t
    have K6 := Lib.hid (K5.out.trans k)
    clear t k T5 K5
    go_wp2_with fail
    refine ((bpair_is h_hp1.out T6.out)).mono ?_
    rintro o w7 ⟨rfl, t, k⟩
    have T7 := Lib.hid t
    have K7 := Lib.hid (K6.out.trans k)
    clear t k T6 K6
    go_wp2_with fail
    refine ((bpair_is h_hp2.out T7.out)).mono ?_
    rintro o w8 ⟨rfl, t, k⟩
    have T8 := Lib.hid t
    have K8 := Lib.hid (K7.out.trans k)
    clear t k T7 K7
    go_wp2_with fail
    refine ((bpair_is h_hp3.out T8.out)).mono ?_
    rintro o w9 ⟨rfl, t, k⟩
    have T9 := Lib.hid t
    have K9 := Lib.hid (K8.out.trans k)
    clear t k T8 K8
    go_wp2_with fail
    go_ret
    exact ⟨rfl, T9.out, K9.out⟩
  | @r1 P Q A B u v s1 s2 _ e2 _ z _ e0 sn H1 H2 b1 b2 c1 ho sn1 H3 H4 b3 b4 c2 hp1 hp2 =>
    have T0 := Lib.hid ha
    have K0 := Lib.hid (Kept.refl K w)
    subst e0
    have h_sn := Lib.hid sn
    have h_H1 := Lib.hid H1
    have h_H2 := Lib.hid H2
    have h_ho := Lib.hid ho
    have h_sn1 := Lib.hid sn1
    have h_H3 := Lib.hid H3
    have h_H4 := Lib.hid H4
    have h_hp1 := Lib.hid hp1
    have h_hp2 := Lib.hid hp2
    clear sn H1 H2 ho sn1 H3 H4 hp1 hp2
    have d1 : (P : Int) + 1 < (Q : Int) := by omega
    have d0 : (P : Int) ≤ (Q : Int) + 1 := by omega
    have d2 : (A : Int) ≤ (B : Int) := by omega
    have d3 : (P : Int) ≤ 1000 := by omega
    have d4 : (Q : Int) ≤ 1000 := by omega
    have d5 : (A : Int) ≤ 1000 := by omega
    have d6 : (B : Int) ≤ 1000 := by omega
    clear b1 b2 c1 b3 b4 c2
    clear ha
    go_enter Try.func54, Try.ntmps54
    go_wp2_with fail
    refine ((bhigh_is h_sn.out h_H1.out _ (T0.out))).mono ?_
    rintro o w1 ⟨rfl, t, k⟩
    have T1 := Lib.hid t
    have K1 := Lib.hid (K0.out.trans (Kept.of_below k K))
    clear t k T0 K0
    go_wp2_with fail
    refine ((bhigh_is h_sn.out h_H2.out _ (T1.out))).mono ?_
    rintro o w2 ⟨rfl, t, k⟩
    have T2 := Lib.hid t
    have K2 := Lib.hid (K1.out.trans (Kept.of_below k K))
    clear t k T1 K1
    go_wp2_with fail
    refine ((bopen_is h_ho.out T2.out)).mono ?_
    rintro o w3 ⟨rfl, t, k⟩
    have T3 := Lib.hid t
    have K3 := Lib.hid (K2.out.trans k)
    clear t k T2 K2
    go_wp2_with fail
    refine ((bhigh_is h_sn1.out h_H4.out _ (T3.out))).mono ?_
    rintro o w4 ⟨rfl, t, k⟩
    have T4 := Lib.hid t
    have K4 := Lib.hid (K3.out.trans (Kept.of_below k K))
    clear t k T3 K3
    go_wp2_with fail
    refine ((bhigh_is h_sn1.out h_H3.out _ (T4.out))).mono ?_
    rintro o w5 ⟨rfl, t, k⟩
    have T5 := Lib.hid t
    have K5 := Lib.hid (K4.out.trans (Kept.of_below k K))
    clear t k T4 K4
    go_wp2_with fail
    refine ((bpair_is h_hp1.out T5.out)).mono ?_
    rintro o w6 ⟨rfl, t, k⟩
    have T6 := Lib.hid t
    have K6 := Lib.hid (K5.out.trans k)
    clear t k T5 K5
    go_wp2_with fail
    refine ((bpair_is h_hp2.out T6.out)).mono ?_
    rintro o w7 ⟨rfl, t, k⟩
    have T7 := Lib.hid t
    have K7 := Lib.hid (K6.out.trans k)
    clear t k T6 K6
    go_wp2_with fail
    go_ret
    exact ⟨rfl, T7.out, K7.out⟩
  | @r2 P Q A B u v b c s1 s2 s3 s4 _ e3 e4 _ z1 z2 _ e0 sn H1 H2 b1 b2 c1 ho sn1 H3 H4 b3 b4 c2 ho2 hp1 hp2 hp3 =>
    have T0 := Lib.hid ha
    have K0 := Lib.hid (Kept.refl K w)
    subst e0
    have h_sn := Lib.hid sn
    have h_H1 := Lib.hid H1
    have h_H2 := Lib.hid H2
    have h_ho := Lib.hid ho
    have h_sn1 := Lib.hid sn1
    have h_H3 := Lib.hid H3
    have h_H4 := Lib.hid H4
    have h_ho2 := Lib.hid ho2
    have h_hp1 := Lib.hid hp1
    have h_hp2 := Lib.hid hp2
    have h_hp3 := Lib.hid hp3
    clear sn H1 H2 ho sn1 H3 H4 ho2 hp1 hp2 hp3
    have d1 : (P : Int) + 1 < (Q : Int) := by omega
    have d0 : (P : Int) ≤ (Q : Int) + 1 := by omega
    have d2 : (B : Int) < (A : Int) := by omega
    have d3 : (P : Int) ≤ 1000 := by omega
    have d4 : (Q : Int) ≤ 1000 := by omega
    have d5 : (A : Int) ≤ 1000 := by omega
    have d6 : (B : Int) ≤ 1000 := by omega
    clear b1 b2 c1 b3 b4 c2
    clear ha
    go_enter Try.func54, Try.ntmps54
    go_wp2_with fail
    refine ((bhigh_is h_sn.out h_H1.out _ (T0.out))).mono ?_
    rintro o w1 ⟨rfl, t, k⟩
    have T1 := Lib.hid t
    have K1 := Lib.hid (K0.out.trans (Kept.of_below k K))
    clear t k T0 K0
    go_wp2_with fail
    refine ((bhigh_is h_sn.out h_H2.out _ (T1.out))).mono ?_
    rintro o w2 ⟨rfl, t, k⟩
    have T2 := Lib.hid t
    have K2 := Lib.hid (K1.out.trans (Kept.of_below k K))
    clear t k T1 K1
    go_wp2_with fail
    refine ((bopen_is h_ho.out T2.out)).mono ?_
    rintro o w3 ⟨rfl, t, k⟩
    have T3 := Lib.hid t
    have K3 := Lib.hid (K2.out.trans k)
    clear t k T2 K2
    go_wp2_with fail
    refine ((bhigh_is h_sn1.out h_H4.out _ (T3.out))).mono ?_
    rintro o w4 ⟨rfl, t, k⟩
    have T4 := Lib.hid t
    have K4 := Lib.hid (K3.out.trans (Kept.of_below k K))
    clear t k T3 K3
    go_wp2_with fail
    refine ((bhigh_is h_sn1.out h_H3.out _ (T4.out))).mono ?_
    rintro o w5 ⟨rfl, t, k⟩
    have T5 := Lib.hid t
    have K5 := Lib.hid (K4.out.trans (Kept.of_below k K))
    clear t k T4 K4
    go_wp2_with fail
    refine ((bopen_is h_ho2.out T5.out)).mono ?_
    rintro o w6 ⟨rfl, t, k⟩
    have T6 := Lib.hid t
    have K6 := Lib.hid (K5.out.trans k)
    clear t k T5 K5
    go_wp2_with fail
    refine ((bpair_is h_hp1.out T6.out)).mono ?_
    rintro o w7 ⟨rfl, t, k⟩
    have T7 := Lib.hid t
    have K7 := Lib.hid (K6.out.trans k)
    clear t k T6 K6
    go_wp2_with fail
    refine ((bpair_is h_hp2.out T7.out)).mono ?_
    rintro o w8 ⟨rfl, t, k⟩
    have T8 := Lib.hid t
    have K8 := Lib.hid (K7.out.trans k)
    clear t k T7 K7
    go_wp2_with fail
    refine ((bpair_is h_hp3.out T8.out)).mono ?_
    rintro o w9 ⟨rfl, t, k⟩
    have T9 := Lib.hid t
    have K9 := Lib.hid (K8.out.trans k)
    clear t k T8 K8
    go_wp2_with fail
    go_ret
    exact ⟨rfl, T9.out, K9.out⟩
end
end Go.Proofs.Ytjfeocoengheaaa
