/- ArenaCounts holds: each live node's count is how often it is a kid of one that is not free, and how often somebody has it; when all is dropped, and freed, nothing is used. No condition. -/
import Derived.Test.YtajkhkgakafgkaaCnt
import Derived.Deep.CutBlock
import Derived.Deep.DeepCutAuto
namespace Go.Proofs.Ytajkhkgakafgkaa.arenaCounts
open Go.ChangeShapes Go.WideShapes Go.ChangeAt Go.RowKit
set_option linter.unusedVariables false

def opKs : List Lk := [.int .i64, .int .i64, .int .i64, .int .i64, .int .i64, .int .i64, .int .i64, .int .u64, .int .u64, .bool]
def At (w : World) (p b N j : Nat) (v : Value) (W : World) : Prop := ∃ K Kl xs s, St w p b N j K Kl xs s v W
def Tl (w : World) (p b N j : Nat) (K Kl : Nat → Prop) (xs : List Int) (s : Ar) (v : Value) (b2 n : Nat) (f : Int → Int) (W : World) : Prop := St w p b N j K Kl xs s v W ∧ IMap W b2 n f
section
variable {w W W' : World} {p b N j b2 n : Nat} {K Kl : Nat → Prop} {xs : List Int} {s : Ar} {v : Value} {f : Int → Int}
theorem Tl.below (h : Tl w p b N j K Kl xs s v b2 n f W) (hb : Below W.heap.size W W') : Tl w p b N j K Kl xs s v b2 n f W' := ⟨h.1.below hb, h.2.same (hb.block _ h.2.lt)⟩
theorem Tl.alloc (h : Tl w p b N j K Kl xs s v b2 n f W) (o : Obj) : Tl w p b N j K Kl xs s v b2 n f (W.alloc o) := h.below ((Below.refl _ _).alloc (Nat.le_refl _) o)
theorem Tl.drewN (h : Tl w p b N j K Kl xs s v b2 n f W) (m : Nat) : Tl w p b N j K Kl xs s v b2 n f (W.drewN m) := h.below ⟨rfl, rfl, rfl, Nat.le_refl _, fun _ _ => rfl⟩
theorem Tl.mono {n' : Nat} (h : Tl w p b N j K Kl xs s v b2 n f W) (hn : n ≤ n') : Tl w p b N j K Kl xs s v b2 n' f W := ⟨h.1, h.2.mono hn⟩
end
/-- While all that somebody has is dropped. -/
structure Dn (wo : World) (K : Nat → Prop) (p N m : Nat) (l : List Int) (s : Ar) (W : World) : Prop where
  ars : Ars W K p s
  ok : s.Ok (4 * m)
  acc : Acc s (cnt l)
  led : Led s
  n : s.n = N
  kept : Kept K wo W
theorem Dn.drop {wo W : World} {K : Nat → Prop} {p N m : Nat} {l r : List Int} {s : Ar} {y : Int} (h : Dn wo K p N m l s W) (hl : l = y :: r) (hy : 1 ≤ y ∧ y ≤ N) :
    ∃ s', s.drop y = (s', 0) ∧ ∀ W', Ars W' K p s' → Kept K W W' → Dn wo K p N m r s' W' := by
  subst hl
  have hn := h.n
  have hc : 1 ≤ cnt (y :: r) y.toNat := cnt_mem (by simp) (by omega)
  obtain ⟨e2, ac⟩ := acc_drop h.acc (i := y) (by omega) (by omega) hc
  refine ⟨(s.drop y).1, by rw [← e2], fun W' ha hk => ⟨ha, ok_drop h.ok y, ac.congr fun k k1 => ?_, led_drop h.led y, (drop_n s y).trans hn, h.kept.trans hk⟩⟩
  have e : ∀ k : Nat, cnt (y :: r) k = cnt r k + if y = (k : Int) then 1 else 0 := fun k => by
    unfold cnt
    rw [List.count_cons]
    by_cases e : y = (k : Int)
    · rw [if_pos e, if_pos (by simpa using e)]
    · rw [if_neg e, if_neg (by simpa using e)]
  by_cases e1 : k = y.toNat
  · subst e1; rw [upd_same, e, if_pos (by omega)]; omega
  · rw [upd_ne _ _ e1, e, if_neg (by omega)]; omega
theorem Dn.work {wo W W' : World} {K : Nat → Prop} {p N m : Nat} {s : Ar} (h : Dn wo K p N m [] s W) {q : Nat} (ha : Ars W' K p (s.work q).1) (hk : Kept K W W') : Dn wo K p N m [] (s.work q).1 W' :=
  ⟨ha, ok_work q h.ok, acc_work rfl q h.acc h.ok, led_work q h.led h.ok, (work_n q s).trans h.n, h.kept.trans hk⟩
def Pick (xs : List Int) (z : Int) : Prop := (xs = [] ∧ z = 0) ∨ z ∈ xs
theorem at_idx {xs : List Int} {i : Int} (h0 : 0 ≤ i) (h1 : i < xs.length) : xs.getD i.toNat 0 ∈ xs := by
  rw [List.getD_eq_getElem?_getD, List.getElem?_eq_getElem (by omega)]
  exact List.getElem_mem _
set_option maxRecDepth 100000 in
set_option maxHeartbeats 4000000 in
theorem walk (n : Int) (w0 : (Lit.int .i64 n).wf = true) (v : Value) (m : Nat) (row : Nat → List Value) (w : World) (hx : FlatArg w v opKs m row) :
    Calls Try.prog 7 #[.int .i64 n, v] w fun e w' => e = .returned (.bool true) ∧ Below w.heap.size w w' := by
  have HA := Lib.hid alive6
  obtain ⟨va, vc, rfl⟩ := hx.val
  have hl := hx.len
  unfold maxLen at hl
  have Hx := Lib.hid hx
  clear hx
  by_cases h1 : n < 1
  · skip
    go_enter Try.func7, Try.ntmps7
    go_wp2_with fail
    refine (HA.out w).mono ?_
    rintro e w1 ⟨rfl, hb⟩
    go_wp2_with fail
    go_ret
    exact ⟨rfl, hb⟩
  by_cases h2 : 30 < n
  · skip
    go_enter Try.func7, Try.ntmps7
    go_wp2_with fail
    refine (HA.out w).mono ?_
    rintro e w1 ⟨rfl, hb⟩
    go_wp2_with fail
    go_ret
    exact ⟨rfl, hb⟩
  by_cases h3 : 120 < m
  · have h3' : decide ((120 : Int) < (m : Int)) = true := by simp; omega
    go_enter Try.func7, Try.ntmps7
    go_wp2_with fail
    refine (HA.out w).mono ?_
    rintro e w1 ⟨rfl, hb⟩
    go_wp2_with fail
    go_ret
    exact ⟨rfl, hb⟩
  have h3' : decide ((120 : Int) < (m : Int)) = false := by simp; omega
  obtain ⟨N, rfl⟩ := Int.eq_ofNat_of_zero_le (show 0 ≤ n by omega)
  obtain ⟨K, hK⟩ : ∃ K : Nat → Prop, K = fun b => b < w.heap.size := ⟨_, rfl⟩
  have HK := Lib.hid hK
  clear hK
  go_enter Try.func7, Try.ntmps7
  go_wp2_with fail
  refine (HA.out w).mono ?_
  rintro e w1 ⟨rfl, hb⟩
  have Hk := Lib.hid (Kept.of_below hb K)
  clear hb
  go_wp2_with fail
  refine (new_yes N _ (by omega) (by omega)).mono ?_
  rintro e w2 ⟨p, rfl, hb, ha⟩
  replace ha := ha K (fun b h => by rw [HK.out] at h; have := Hk.out.size; omega)
  replace Hk := Lib.hid (Hk.out.trans (Kept.of_below hb K))
  clear hb
  have hmm := @run_makeMap Try.prog
  go_wp2_with fail
  have hb0 := Hk.out.below (fun b hb => by rw [HK.out]; exact hb)
  have h0 : At w p w2.heap.size N 0 (.slice none 0 0) (w2.alloc (.map #[] 0)) :=
    ⟨fun x => K x ∨ x = w2.heap.size, fun _ => False, [], Ar.new N, ha.allocK _, IMap.new w2, .inr rfl, Lst.nil _ _ _, fun x h => h.elim, id, hb0.size, Nat.le_refl _, fun x h => (by cases h), rfl, ok_new (by omega) (by omega), (acc_new N).congr fun k _ => rfl, led_new N, fun x h => (by rw [HK.out]; exact .inl h), hb0.alloc hb0.size _⟩
  clear ha Hk HK hb0
  generalize w2.heap.size = b at *
  generalize w2.alloc (.map #[] 0) = w3 at *
  clear hmm
  go_loopw [7, 51] (fun v i W => ∃ j : Nat, i = .int .i64 j ∧ j ≤ m ∧ At w p b N j v W) (fun _ i _ => m - (intOf i).toNat)
  case atStart => exact ⟨0, rfl, by omega, h0⟩
  case round =>
    obtain ⟨j, rfl, j1, hat⟩ := hrel
    clear h0
    by_cases hlt : j < m
    · obtain ⟨ba, off, c, hv, hba, hmc, hcells⟩ := Hx.out.cell j hlt
      have hok := Hx.out.ok j hlt
      obtain ⟨K, Kl, xs, s, hs⟩ := hat
      obtain ⟨L, HL⟩ : ∃ L, Hid (xs.length = L) := ⟨_, rfl⟩
      have hsl := hs.lst.slice
      rw [HL.out] at hsl
      obtain ⟨a, c', rfl⟩ := hsl
      have hcell := hcells j hlt
      obtain ⟨o0, e0, kd, rfl, wkd⟩ := hok.get (j := 0) rfl
      obtain ⟨o1, e1, nn, rfl, wnn⟩ := hok.get (j := 1) rfl
      obtain ⟨o2, e2, tg, rfl, wtg⟩ := hok.get (j := 2) rfl
      obtain ⟨o3, e3, q0, rfl, wq0⟩ := hok.get (j := 3) rfl
      obtain ⟨o4, e4, q1, rfl, wq1⟩ := hok.get (j := 4) rfl
      obtain ⟨o5, e5, q2, rfl, wq2⟩ := hok.get (j := 5) rfl
      obtain ⟨o6, e6, q3, rfl, wq3⟩ := hok.get (j := 6) rfl
      obtain ⟨o7, e7, oA, rfl, woA⟩ := hok.get (j := 7) rfl
      obtain ⟨o8, e8, oB, rfl, woB⟩ := hok.get (j := 8) rfl
      obtain ⟨o9, e9, oR, rfl⟩ := hok.get (j := 9) rfl
      cases hv
      have hbl : ∀ i, wr.cell? ⟨ba, off + i, none⟩ = w.cell? ⟨ba, off + i, none⟩ := fun i => hs.bel.cell (p := ⟨ba, off + i, none⟩) hba
      have c0 : wr.cell? ⟨ba, off + j * 10, none⟩ = some (.int .i64 kd) := (hbl _).trans ((hcell 0 (by decide)).trans e0)
      have c1 : wr.cell? ⟨ba, off + j * 10 + 1, none⟩ = some (.int .i64 nn) := (hbl _).trans ((hcell 1 (by decide)).trans e1)
      have c2 : wr.cell? ⟨ba, off + j * 10 + 2, none⟩ = some (.int .i64 tg) := (hbl _).trans ((hcell 2 (by decide)).trans e2)
      have c3 : wr.cell? ⟨ba, off + j * 10 + 3, none⟩ = some (.int .i64 q0) := (hbl _).trans ((hcell 3 (by decide)).trans e3)
      have c4 : wr.cell? ⟨ba, off + j * 10 + 4, none⟩ = some (.int .i64 q1) := (hbl _).trans ((hcell 4 (by decide)).trans e4)
      have c5 : wr.cell? ⟨ba, off + j * 10 + 5, none⟩ = some (.int .i64 q2) := (hbl _).trans ((hcell 5 (by decide)).trans e5)
      have c6 : wr.cell? ⟨ba, off + j * 10 + 6, none⟩ = some (.int .i64 q3) := (hbl _).trans ((hcell 6 (by decide)).trans e6)
      have c7 : wr.cell? ⟨ba, off + j * 10 + 7, none⟩ = some (.int .u64 oA) := (hbl _).trans ((hcell 7 (by decide)).trans e7)
      have c8 : wr.cell? ⟨ba, off + j * 10 + 8, none⟩ = some (.int .u64 oB) := (hbl _).trans ((hcell 8 (by decide)).trans e8)
      have c9 : wr.cell? ⟨ba, off + j * 10 + 9, none⟩ = some (.bool oR) := (hbl _).trans ((hcell 9 (by decide)).trans e9)
      have Hs := Lib.hid (hs.alloc (.cells #[.int .i64 kd, .int .i64 nn, .int .i64 tg, .int .i64 q0, .int .i64 q1, .int .i64 q2, .int .i64 q3, .int .u64 oA, .int .u64 oB, .bool oR] 42))
      have hbx := heap_alloc_new wr (.cells #[.int .i64 kd, .int .i64 nn, .int .i64 tg, .int .i64 q0, .int .i64 q1, .int .i64 q2, .int .i64 q3, .int .u64 oA, .int .u64 oB, .bool oR] 42)
      have hlen := hs.len
      rw [HL.out] at hlen
      clear hs hcells hcell hok hbl e0 e1 e2 e3 e4 e5 e6 e7 e8 e9
      go_upto_if 57 with fail
      generalize wr.alloc (.cells #[.int .i64 kd, .int .i64 nn, .int .i64 tg, .int .i64 q0, .int .i64 q1, .int .i64 q2, .int .i64 q3, .int .u64 oA, .int .u64 oB, .bool oR] 42) = W1 at *
      generalize wr.heap.size = z at *
      have Hbx := Lib.hid hbx
      have d0 : W1.cell? ⟨z, 0, none⟩ = some (.int .i64 kd) := cell_of_row _ _ _ _ _ _ hbx
      have d1 : W1.cell? ⟨z, 1, none⟩ = some (.int .i64 nn) := cell_of_row _ _ _ _ _ _ hbx
      clear c0 c1 c2 c3 c4 c5 c6 c7 c8 c9 hbx
      go_cut [10] (fun n0 W => ∃ y, n0 = .int .i64 y ∧ Pick xs y ∧ W = W1)
      case first =>
        as_aux_lemma =>
          by_cases hxs : L = 0
          · have hx0 : decide (0 < L) = false := decide_eq_false (by omega)
            go_wp2_with fail
            go_meet
            case rel => exact ⟨0, rfl, .inl ⟨List.length_eq_zero_iff.1 (HL.out.trans hxs), rfl⟩, rfl⟩
          · have hx0 : decide (0 < L) = true := decide_eq_true (by omega)
            obtain ⟨b1, b2, b3, b4⟩ := pick nn L (by omega)
            obtain ⟨g, cp, hsl, hcp, hKg, hcells⟩ := Hs.out.lst.at_ (i := 0) (by rw [HL.out]; omega)
            have hcg : a = some ⟨g, 0, none⟩ := by injection hsl
            subst hcg
            have hcp : L ≤ c' := by injection hsl with _ _ e; rw [e, ← HL.out]; exact hcp
            have hc := hcells (Int.tmod nn L % L).toNat (by rw [HL.out]; omega)
            have hm := Lib.hid (at_idx b1 (by rw [HL.out]; exact b2))
            clear hcells hsl
            generalize xs.getD (Int.tmod nn L % L).toNat 0 = y_1 at hc hm
            go_wp2_with fail
            go_meet
            case rel => exact ⟨y_1, rfl, .inr hm.out, rfl⟩
      case rest =>
        obtain ⟨y, rfl, hy, rfl⟩ := hcut
        go_upto_block 2 with fail
        go_cut [7] (fun v W => At w p b N (j + 1) v W)
        case first =>
          by_cases k1 : kd = 1
          · subst k1
            as_aux_lemma =>
              skip
              have T4 : 0 ≤ tg % 4 ∧ tg % 4 < 4 := by omega
              have a3 := i64_and3 tg
              have d2 : wc.cell? ⟨z, 2, none⟩ = some (.int .i64 tg) := cell_of_row _ _ _ _ _ _ Hbx.out
              clear hy
              go_wp2_with fail
              have hX0 : XBox wc wc.heap.size (1 + tg % 4) xs (wc.alloc (.cells #[.int .i64 (1 + tg % 4), .int .i64 0, .int .i64 0, .int .i64 0, .int .i64 0, .int .u64 0, .int .u64 0] 31)) :=
                ⟨0, 0, 0, 0, heap_alloc_new _ _, (Below.refl _ _).alloc (Nat.le_refl _) _, .inl rfl, .inl rfl, .inl rfl, .inl rfl⟩
              generalize wc.alloc (.cells #[.int .i64 (1 + tg % 4), .int .i64 0, .int .i64 0, .int .i64 0, .int .i64 0, .int .u64 0, .int .u64 0] 31) = w4 at *
              have hT : 1 ≤ 1 + tg % 4 ∧ 1 + tg % 4 ≤ 6 := by omega
              clear T4
              generalize 1 + tg % 4 = T at *
              obtain ⟨z2, hz2'⟩ : ∃ z2, wc.heap.size = z2 := ⟨_, rfl⟩
              rw [hz2'] at hX0 ⊢
              have hz2 := Lib.hid hz2'
              clear hz2'
              have HX0 := Lib.hid hX0
              have hzc : z < wc.heap.size := lt_heap Hbx.out
              clear hX0 d0 d1 d2 a3
              go_loopw [82] (fun i W => ∃ t : Nat, i = .int .i64 t ∧ t ≤ 4 ∧ XBox wc z2 T xs W) (fun i _ => 4 - (intOf i).toNat)
              case atStart => exact ⟨0, rfl, by omega, HX0.out⟩
              case round =>
                obtain ⟨t, rfl, t1, hX⟩ := hrel
                have HX := Lib.hid hX
                clear hX
                by_cases ht : t < 4
                · obtain ⟨q, hq⟩ := box_kid ((HX.out.bel.block z hzc).trans Hbx.out) ht
                  by_cases hL : L = 0
                  · have hx0 : decide (0 < L) = false := decide_eq_false (by omega)
                    go_wp2_with fail
                    go_roundw
                    case rel => exact ⟨t + 1, by go_num, by omega, HX.out⟩
                    case measure => simp [intOf]; omega
                  · have hx0 : decide (0 < L) = true := decide_eq_true (by omega)
                    have e1 := i64_and1 q
                    by_cases hq1 : q % 2 = 1
                    · have hq1' : (q % 2 == 1) = true := by simpa using hq1
                      have Hq1 := Lib.hid hq1
                      clear hq1
                      obtain ⟨b1, b2, b3, b4⟩ := pick q L (by omega)
                      obtain ⟨g, cp, hsl, hcp, hKg, hcells⟩ := Hs.out.lst.at_ (i := 0) (by rw [HL.out]; omega)
                      have hcg : a = some ⟨g, 0, none⟩ := by injection hsl
                      subst hcg
                      have hcp : L ≤ c' := by injection hsl with _ _ e; rw [e, ← HL.out]; exact hcp
                      have hc := hcells (Int.tmod q L % L).toNat (by rw [HL.out]; omega)
                      have hm := Lib.hid (at_idx b1 (by rw [HL.out]; exact b2))
                      clear hcells hsl
                      generalize xs.getD (Int.tmod q L % L).toNat 0 = y_1 at hc hm
                      have hc' : wr.cell? ⟨g, (q.tmod L % L).toNat, none⟩ = some (.int .i64 y_1) := (HX.out.bel.cell (p := ⟨g, _, none⟩) (Hs.out.ars.lt g (Hs.out.sub g hKg))).trans hc
                      obtain ⟨ov, hov⟩ := HX.out.old ht
                      have hfz := HX.out.fz (1 + t)
                      go_wp2_with fail
                      go_roundw
                      case rel => exact ⟨t + 1, by go_num, by omega, HX.out.set (by rw [hz2.out]; exact Nat.le_refl _) ht hm.out⟩
                      case measure => simp [intOf]; omega
                    · have hq1' : (q % 2 == 1) = false := by simpa using hq1
                      go_wp2_with fail
                      go_roundw
                      case rel => exact ⟨t + 1, by go_num, by omega, HX.out⟩
                      case measure => simp [intOf]; omega
                · obtain rfl : t = 4 := by omega
                  obtain ⟨k0, k1, k2, k3, hb, hbel, a0, a1, a2, a3⟩ := HX.out
                  have d0 : wr.cell? ⟨z2, 0, none⟩ = some (.int .i64 T) := cell_of_row _ _ _ _ _ _ hb
                  have d1 : wr.cell? ⟨z2, 1, none⟩ = some (.int .i64 k0) := cell_of_row _ _ _ _ _ _ hb
                  have d2 : wr.cell? ⟨z2, 2, none⟩ = some (.int .i64 k1) := cell_of_row _ _ _ _ _ _ hb
                  have d3 : wr.cell? ⟨z2, 3, none⟩ = some (.int .i64 k2) := cell_of_row _ _ _ _ _ _ hb
                  have d4 : wr.cell? ⟨z2, 4, none⟩ = some (.int .i64 k3) := cell_of_row _ _ _ _ _ _ hb
                  have d5 : wr.cell? ⟨z2, 5, none⟩ = some (.int .u64 0) := cell_of_row _ _ _ _ _ _ hb
                  have d6 : wr.cell? ⟨z2, 6, none⟩ = some (.int .u64 0) := cell_of_row _ _ _ _ _ _ hb
                  have Hs2 := Lib.hid (Hs.out.below hbel)
                  clear Hs
                  have Hs := Hs2
                  clear Hs2 hb hbel HX HX0
                  have hkids : ∀ x, x ∈ (⟨T, k0, k1, k2, k3, 0, 0⟩ : Nd).kids → x = 0 ∨ x ∈ xs := by
                    intro x hx
                    simp only [Nd.kids, List.mem_cons, List.not_mem_nil, or_false] at hx
                    rcases hx with rfl | rfl | rfl | rfl
                    · exact a0
                    · exact a1
                    · exact a2
                    · exact a3
                  rcases Hs.out.make (x := ⟨T, k0, k1, k2, k3, 0, 0⟩) (by show 1 ≤ T ∧ T ≤ 6; omega) hkids with ⟨s', ek, f1, f2, en, eo, ea, el⟩ | ⟨ek, ebusy⟩
                  · have hyr : 1 ≤ (s.free : Int) ∧ (s.free : Int) ≤ N := by omega
                    generalize (s.free : Int) = f at *
                    have wy : (Lit.int .i64 f).wf = true := WalkArith.wf_i64 (by omega)
                    have H := Lib.hid (make_is _ ek Hs.out.ars Hs.out.ok (by omega))
                    have En := Lib.hid en
                    clear ek en hkids a0 a1 a2 a3 f1 f2
                    go_wp2_with fail
                    refine H.out.mono ?_
                    rintro e w5 ⟨rfl, ha, hk⟩
                    clear d0 d1 d2 d3 d4 d5 d6
                    have hmp := Lib.hid (Hs.out.map.kept hk Hs.out.bK)
                    obtain ⟨cy, hcy⟩ : ∃ cy : Int, Hid ((xs.count f : Int) = cy) := ⟨_, rfl⟩
                    have hcl : 0 ≤ cy ∧ cy ≤ 120 := by rw [← hcy.out]; have := List.count_le_length (a := f) (l := xs); rw [HL.out] at this; omega
                    have hlk := hmp.out.look wy
                    rw [hcy.out] at hlk
                    have Ha := Lib.hid ha
                    have Hk := Lib.hid hk
                    clear ha hk H
                    go_wp2_with (at_mapUpdate; refine wpList_imap_put hmp.out (by omega) rfl _ _ _ rfl rfl _ _ rfl rfl wy ?wv ?_)
                    case wv => exact WalkArith.wf_i64 (by omega)
                    intro w5 hm5 hg5
                    obtain ⟨L1, L2, L3, L4⟩ := Hs.out.more (W3 := default) Ha.out Hk.out En.out eo ea el hyr hm5 (by rw [hcy.out]) hg5 (.cells #[.int .i64 f] 3)
                    have M1 := Lib.hid L1
                    have M2 := Lib.hid L2
                    have M3 := Lib.hid L3
                    have M5 := Lib.hid hm5
                    have G5 := Lib.hid hg5
                    have M6 := Lib.hid (show xs.length + 1 ≤ 1000000000 by rw [HL.out]; omega)
                    clear L1 L2 L3 L4 hlk hmp hm5 hg5
                    go_wp2_with (at_builtin; refine wpList_append_lst M1.out M2.out M3.out M6.out rfl (.tmp 130) (.tmp 132) rfl rfl ⟨w5.heap.size, 0, none⟩ f 1 rfl (cell_new rfl rfl) ?_)
                    intro v' w7 K2 hp
                    have HP := Lib.hid hp
                    clear hp
                    go_wp2_with fail
                    go_meet
                    case rel => exact ⟨_, _, _, _, (Hs.out.more Ha.out Hk.out En.out eo ea el hyr M5.out (by rw [hcy.out]) G5.out _).2.2.2 _ _ HP.out⟩
                  · have H := Lib.hid (make_is _ ek Hs.out.ars Hs.out.ok (by omega))
                    have Eb := Lib.hid ebusy
                    clear ek hkids a0 a1 a2 a3 ebusy
                    go_wp2_with fail
                    refine H.out.mono ?_
                    rintro e w5 ⟨rfl, ha, hk⟩
                    clear d0 d1 d2 d3 d4 d5 d6 H
                    have Hs3 := Lib.hid (Hs.out.arena ha hk rfl Hs.out.ok Hs.out.acc Hs.out.led)
                    have H := Lib.hid (used_is Eb.out ha)
                    clear ha hk
                    go_wp2_with fail
                    refine H.out.mono ?_
                    rintro e w' ⟨rfl, rfl⟩
                    go_wp2_with fail
                    go_meet
                    case rel => exact ⟨_, _, _, _, Hs3.out.next⟩
          have k1' : (kd == 1) = false := by simpa using k1
          by_cases k2 : kd = 2
          · subst k2
            as_aux_lemma =>
              clear k1 k1'
              by_cases y0 : y = 0
              · have y0' : (y == 0) = true := by simpa using y0
                have y0'' : (y != 0) = false := by simpa using y0
                clear y0
                go_wp2_with fail
                go_meet
                case rel => exact ⟨K, Kl, xs, s, Hs.out.next⟩
              · have y0' : (y == 0) = false := by simpa using y0
                have y0'' : (y != 0) = true := by simpa using y0
                have hyx : y ∈ xs := hy.resolve_left fun h => y0 h.2
                obtain ⟨s', ek, en, eo, ea, el⟩ := Hs.out.keep hyx
                have hyr := Hs.out.rng y hyx
                have wy : (Lit.int .i64 y).wf = true := WalkArith.wf_i64 (by omega)
                have H := Lib.hid (keep_is y ek Hs.out.ars (Hs.out.ok.fit (by omega)))
                have Ek := Lib.hid ek
                have En := Lib.hid en
                clear ek en y0
                go_wp2_with fail
                refine H.out.mono ?_
                rintro e w4 ⟨rfl, ha, hk⟩
                have hmp := Lib.hid (Hs.out.map.kept hk Hs.out.bK)
                obtain ⟨cy, hcy⟩ : ∃ cy : Int, Hid ((xs.count y : Int) = cy) := ⟨_, rfl⟩
                have hcl : 0 ≤ cy ∧ cy ≤ 120 := by rw [← hcy.out]; have := List.count_le_length (a := y) (l := xs); rw [HL.out] at this; omega
                have hlk := hmp.out.look wy
                rw [hcy.out] at hlk
                have Ha := Lib.hid ha
                have Hk := Lib.hid hk
                clear ha hk H
                go_wp2_with (at_mapUpdate; refine wpList_imap_put hmp.out (by omega) rfl _ _ _ rfl rfl _ _ rfl rfl wy ?wv ?_)
                case wv => exact WalkArith.wf_i64 (by omega)
                intro w5 hm5 hg5
                obtain ⟨L1, L2, L3, L4⟩ := Hs.out.more (W3 := default) Ha.out Hk.out En.out eo ea el hyr hm5 (by rw [hcy.out]) hg5 (.cells #[.int .i64 y] 3)
                have M1 := Lib.hid L1
                have M2 := Lib.hid L2
                have M3 := Lib.hid L3
                have M5 := Lib.hid hm5
                have G5 := Lib.hid hg5
                have M6 := Lib.hid (show xs.length + 1 ≤ 1000000000 by rw [HL.out]; omega)
                clear L1 L2 L3 L4 hlk hmp hm5 hg5
                go_wp2_with (at_builtin; refine wpList_append_lst M1.out M2.out M3.out M6.out rfl (.tmp 156) (.tmp 158) rfl rfl ⟨w5.heap.size, 0, none⟩ y 1 rfl (cell_new rfl rfl) ?_)
                intro v' w7 K2 hp
                have HP := Lib.hid hp
                clear hp
                go_wp2_with fail
                go_meet
                case rel => exact ⟨_, _, _, _, (Hs.out.more Ha.out Hk.out En.out eo ea el hyr M5.out (by rw [hcy.out]) G5.out _).2.2.2 _ _ HP.out⟩
          have k2' : (kd == 2) = false := by simpa using k2
          by_cases k3 : kd = 3
          · subst k3
            as_aux_lemma =>
              clear k1 k2 k1' k2'
              by_cases y0 : y = 0
              · have y0' : (y == 0) = true := by simpa using y0
                have y0'' : (y != 0) = false := by simpa using y0
                clear y0
                go_wp2_with fail
                go_meet
                case rel => exact ⟨K, Kl, xs, s, Hs.out.next⟩
              · have y0' : (y == 0) = false := by simpa using y0
                have y0'' : (y != 0) = true := by simpa using y0
                have hyx : y ∈ xs := hy.resolve_left fun h => y0 h.2
                obtain ⟨s', ek, en, eo, ea, el⟩ := Hs.out.drop hyx
                have hyr := Hs.out.rng y hyx
                have wy : (Lit.int .i64 y).wf = true := WalkArith.wf_i64 (by omega)
                have H := Lib.hid (drop_is y ek Hs.out.ars (Hs.out.ok.fit (by omega)))
                have Ek := Lib.hid ek
                have En := Lib.hid en
                clear ek en y0
                go_wp2_with fail
                refine H.out.mono ?_
                rintro e w4 ⟨rfl, ha, hk⟩
                have hmp := Lib.hid (Hs.out.map.kept hk Hs.out.bK)
                obtain ⟨cy, hcy⟩ : ∃ cy : Int, Hid ((xs.count y : Int) = cy) := ⟨_, rfl⟩
                have hcl : 0 ≤ cy ∧ cy ≤ 120 := by rw [← hcy.out]; have := List.count_le_length (a := y) (l := xs); rw [HL.out] at this; omega
                have hlk := hmp.out.look wy
                rw [hcy.out] at hlk
                have Ha := Lib.hid ha
                have Hk := Lib.hid hk
                clear ha hk H
                go_wp2_with (at_mapUpdate; refine wpList_imap_put hmp.out (by omega) rfl _ _ _ rfl rfl _ _ rfl rfl wy ?wv ?_)
                case wv => exact WalkArith.wf_i64 (by omega)
                intro w5 hm5 hg5
                have M5 := Lib.hid hm5
                have G5 := Lib.hid hg5
                clear hlk hmp hm5 hg5
                have hr0 : Rest w5 xs y 0 false (.slice none 0 0) w5 := ⟨rfl, Below.refl _ _, fun _ => False, Lst.nil _ _ _, fun x hx => hx.elim⟩
                obtain ⟨g, cp, hsl, hcp, hKg, hcells⟩ := Hs.out.lst.at_ (i := 0) (by have := List.length_pos_of_mem hyx; omega)
                have hcg : a = some ⟨g, 0, none⟩ := by injection hsl
                subst hcg
                have hcp : L ≤ c' := by injection hsl with _ _ e; rw [e, ← HL.out]; exact hcp
                have hgb : g < wc.heap.size := Hs.out.ars.lt g (Hs.out.sub g hKg)
                have hgc : ∀ t, t < L → w5.cell? ⟨g, t, none⟩ = some (.int .i64 (xs.getD t 0)) := fun t ht => by
                  have hb4 : g < w4.heap.size := Nat.lt_of_lt_of_le hgb Hk.out.size
                  have e1 : w4.heap[g]? = wc.heap[g]? := Hk.out.block g hgb (Hs.out.sub g hKg)
                  have e2 : w5.heap[g]? = w4.heap[g]? := G5.out.block g hb4 (fun e => by cases e; exact Hs.out.bKl hKg)
                  rw [World.cell?_of_block (w := w4) e2, World.cell?_of_block (w := wc) e1]
                  exact hcells t (by rw [HL.out]; exact ht)
                have hg5 : g < w5.heap.size := Nat.lt_of_lt_of_le (Nat.lt_of_lt_of_le hgb Hk.out.size) G5.out.size
                have Hgc := Lib.hid hgc
                have Hr0 := Lib.hid hr0
                clear hgc hr0 hcells hsl
                go_wp2_with fail
                go_loopw [15, 16, 174] (fun r gv i W => ∃ (t : Nat) (gb : Bool), i = .int .i64 t ∧ t ≤ L ∧ gv = .bool gb ∧ Rest w5 xs y t gb r W) (fun _ _ i _ => L - (intOf i).toNat)
                case atStart => exact ⟨0, false, rfl, by omega, rfl, Hr0.out⟩
                case round =>
                  obtain ⟨t, gb, rfl, t1, rfl, hrest⟩ := hrel
                  by_cases ht : t < L
                  · have cg : wr.cell? ⟨g, t, none⟩ = some (.int .i64 (xs.getD t 0)) := (hrest.2.1.cell (p := ⟨g, t, none⟩) hg5).trans (Hgc.out t ht)
                    have htl : t < xs.length := by rw [HL.out]; exact ht
                    have Htl := Lib.hid htl
                    have Hrest := Lib.hid hrest
                    obtain ⟨x, hx⟩ : ∃ x, Hid (xs.getD t 0 = x) := ⟨_, rfl⟩
                    rw [hx.out] at cg
                    clear htl hrest
                    by_cases hsk : x = y ∧ gb = false
                    · obtain ⟨rfl, rfl⟩ := hsk
                      go_wp2_with fail
                      go_roundw
                      case rel => exact ⟨t + 1, true, by go_num, by omega, rfl, rest_skip Hrest.out Htl.out hx.out⟩
                      case measure => simp [intOf]; omega
                    · obtain ⟨h1r, h2r, Kr, h3r, h4r⟩ := Hrest.out
                      have R1 := Lib.hid h1r
                      have R2 := Lib.hid h2r
                      have R4 := Lib.hid h4r
                      obtain ⟨ys, hys⟩ : ∃ ys, Hid ((xs.take t).erase y = ys) := ⟨_, rfl⟩
                      rw [hys.out] at h3r
                      have R3 := Lib.hid (h3r.kept ((Kept.refl Kr wr).alloc (.cells #[.int .i64 x] 3)))
                      have R5 := Lib.hid (show ∀ b, Kr b → b < (wr.alloc (.cells #[.int .i64 x] 3)).heap.size from fun b hb => by have := (R4.out b hb).2; simp; omega)
                      have R6 := Lib.hid (show w5.heap.size ≤ (wr.alloc (.cells #[.int .i64 x] 3)).heap.size by have := R2.out.size; simp; omega)
                      have R7 := Lib.hid (show ys.length + 1 ≤ 1000000000 by rw [← hys.out]; have := List.length_erase_le (a := y) (l := xs.take t); have := List.length_take_le t xs; omega)
                      have R8 : Hid (x = y → gb = true) := fun h => by
                        cases gb
                        · exact absurd ⟨h, rfl⟩ hsk
                        · rfl
                      clear h1r h2r h4r h3r hsk
                      have hcase : ((x == y) = false) ∨ ((x == y) = true ∧ gb = true) := by
                        by_cases e : x = y
                        · exact .inr ⟨by simpa using e, R8.out e⟩
                        · exact .inl (by simpa using e)
                      have fin : ∀ (r' : Value) (W' : World) (K2 : Nat → Prop), Pushed (wr.alloc (.cells #[.int .i64 x] 3)) W' w5.heap.size Kr K2 r' (ys ++ [x]) → Rest w5 xs y (t + 1) gb r' W' := fun r' W' K2 hp => by
                        refine Rest.push (Kr := Kr) (Kr' := K2) R1.out R2.out R4.out Htl.out (by rw [hx.out]; exact R8.out) (.cells #[.int .i64 x] 3) ?_
                        rw [hys.out, hx.out]
                        exact hp
                      have Fin := Lib.hid fin
                      clear fin
                      rcases hcase with hc | ⟨hc, rfl⟩
                      all_goals
                        go_wp2_with (at_builtin; refine wpList_append_lst R3.out R5.out R6.out R7.out rfl (.tmp 185) (.tmp 187) rfl rfl ⟨wr.heap.size, 0, none⟩ x 1 rfl (cell_new rfl rfl) ?_)
                        intro r' w7 K2 hp
                        have HP := Lib.hid hp
                        clear hp
                        go_wp2_with fail
                        go_roundw
                        case rel => exact ⟨t + 1, _, by go_num, by omega, rfl, Fin.out _ _ _ HP.out⟩
                        case measure => simp [intOf]; omega
                  · obtain rfl : L = t := by omega
                    have Hrest := Lib.hid hrest
                    clear hrest
                    go_wp2_with fail
                    go_meet
                    case rel =>
                      obtain ⟨_, h2r, Kr, h3r, h4r⟩ := Hrest.out
                      rw [← HL.out, List.take_length] at h3r
                      exact ⟨_, _, _, _, Hs.out.less hyx Ha.out Hk.out En.out eo ea el M5.out (by rw [hcy.out]) G5.out h2r h3r h4r⟩
          have k3' : (kd == 3) = false := by simpa using k3
          as_aux_lemma =>
            by_cases k4 : kd = 4
            · subst k4
              clear k1 k2 k3 k1' k2' k3'
              have ok := Lib.hid (ok_work (nn % 8).toNat Hs.out.ok)
              have ac := Lib.hid (acc_work Hs.out.zero (nn % 8).toNat Hs.out.acc Hs.out.ok)
              have le := Lib.hid (led_work (nn % 8).toNat Hs.out.led Hs.out.ok)
              have wn := Lib.hid (work_n (nn % 8).toNat s)
              have ha := Hs.out.ars
              have e7 := i64_and7 nn
              have H := Lib.hid (work_is (nn % 8) rfl rfl ha Hs.out.ok (by have := Hs.out.len; omega) (by omega))
              clear ha
              go_wp2_with fail
              refine H.out.mono ?_
              rintro e w4 ⟨rfl, ha, hk⟩
              have h4 := Hs.out.arena ha hk wn.out ok.out ac.out le.out
              clear ha hk
              go_wp2_with fail
              go_meet
              case rel => exact ⟨K, Kl, xs, _, h4.next⟩
            · have k4' : (kd == 4) = false := by simpa using k4
              clear k1 k2 k3 k4
              go_wp2_with fail
              go_meet
              case rel => exact ⟨K, Kl, xs, s, Hs.out.next⟩
        case rest =>
          as_aux_lemma =>
            clear Hs d0 d1 Hbx hlen HL
            obtain ⟨K, Kl, xs, s, hs⟩ := hcut
            have hmm := @run_makeMap Try.prog
            obtain ⟨K2, hK2⟩ : ∃ K2 : Nat → Prop, K2 = fun x => K x ∨ x = wc.heap.size := ⟨_, rfl⟩
            have h0 : Tl w p b N (j + 1) K2 Kl xs s u7 wc.heap.size 0 (fun x => kidsN s 0 x) (wc.alloc (.map #[] 0)) := ⟨by rw [hK2]; exact hs.allocK _, (IMap.new wc).congr fun k _ => rfl⟩
            have B1 := Lib.hid (show wc.heap.size ≠ b by have := hs.map.lt; omega)
            have B2 := Lib.hid (show ¬ Kl wc.heap.size from fun e => by have := hs.ars.lt _ (hs.sub _ e); omega)
            have B3 := Lib.hid (show w.heap.size ≤ wc.heap.size from hs.bel.size)
            have B4 := Lib.hid (show K2 wc.heap.size by rw [hK2]; exact .inr rfl)
            clear hs hK2
            have H0 := Lib.hid h0
            clear h0
            go_wp2_with fail
            generalize wc.heap.size = b2 at *
            generalize wc.alloc (.map #[] 0) = w4 at *
            clear hmm
            go_loopw [20] (fun h W => ∃ k : Nat, h = .int .i64 k ∧ 1 ≤ k ∧ k ≤ N + 1 ∧ Tl w p b N (j + 1) K2 Kl xs s u7 b2 (4 * (k - 1)) (fun x => kidsN s (k - 1) x) W) (fun h _ => N + 1 - (intOf h).toNat)
            case atStart => exact ⟨1, rfl, by omega, by omega, H0.out⟩
            case round =>
              obtain ⟨k, rfl, k1, k2, hT⟩ := hrel
              have HT := Lib.hid hT
              clear hT
              by_cases hk : k ≤ N
              · cases hu : s.u k
                · have hg : s.get k = (Nd.zero, false) := by unfold Ar.get; rw [if_pos (by right; right; exact hu)]
                  have hkn : kidsN s k = kidsN s (k - 1) := by
                    obtain ⟨k', rfl⟩ : ∃ k', k = k' + 1 := ⟨k - 1, by omega⟩
                    funext x
                    show kidsN s k' x + _ = _
                    rw [hu]; rfl
                  have Hkn := Lib.hid hkn
                  have H := Lib.hid (get_is k hg HT.out.1.ars (HT.out.1.ok.fit (by omega)))
                  clear hu hg hkn
                  go_wp2_with fail
                  refine H.out.mono ?_
                  rintro e w5 ⟨rfl, ha, hbel⟩
                  clear H ha
                  go_wp2_with fail
                  go_roundw
                  case rel => exact ⟨k + 1, by go_num, by omega, by omega, by rw [show k + 1 - 1 = k by omega, Hkn.out]; exact ((HT.out.below hbel).alloc _).mono (by omega)⟩
                  case measure => simp [intOf]; omega
                · have hg : s.get k = (s.nd k, true) := by unfold Ar.get; rw [if_neg (by rw [HT.out.1.n]; simp [hu]; omega)]; rfl
                  have hkn : ∀ x, kidsN s k x = kidsN s (k - 1) x + (s.nd k).kids.count x := by
                    obtain ⟨k', rfl⟩ : ∃ k', k = k' + 1 := ⟨k - 1, by omega⟩
                    intro x
                    show kidsN s k' x + _ = _
                    rw [hu]; rfl
                  have hkr : ∀ y, y ∈ (s.nd k).kids → 0 ≤ y ∧ y ≤ N := fun y hy => by have := HT.out.1.acc.kids k hu y hy; rwa [HT.out.1.n] at this
                  have Hkn := Lib.hid hkn
                  have Hkr := Lib.hid hkr
                  have H := Lib.hid (get_is k hg HT.out.1.ars (HT.out.1.ok.fit (by omega)))
                  clear hu hg hkn hkr
                  go_wp2_with fail
                  refine H.out.mono ?_
                  rintro e w5 ⟨rfl, ha, hbel⟩
                  have HT2 := Lib.hid ((HT.out.below hbel).alloc (.cells #[.int .i64 (s.nd k).tag, .int .i64 (s.nd k).k0, .int .i64 (s.nd k).k1, .int .i64 (s.nd k).k2, .int .i64 (s.nd k).k3, .int .u64 (s.nd k).A, .int .u64 (s.nd k).B] 31))
                  clear H ha hbel HT
                  generalize hx : s.nd k = x at *
                  have Hx2 := Lib.hid hx
                  clear hx
                  go_wp2_with fail
                  generalize w5.alloc (.cells #[.int .i64 x.tag, .int .i64 x.k0, .int .i64 x.k1, .int .i64 x.k2, .int .i64 x.k3, .int .u64 x.A, .int .u64 x.B] 31) = w6 at *
                  go_loopw [213] (fun i W => ∃ t : Nat, i = .int .i64 t ∧ t ≤ 4 ∧ Tl w p b N (j + 1) K2 Kl xs s u7 b2 (4 * (k - 1) + t) (fun y => kidsN s (k - 1) y + (x.kids.take t).count y) W) (fun i _ => 4 - (intOf i).toNat)
                  case atStart => exact ⟨0, rfl, by omega, HT2.out⟩
                  case round =>
                    obtain ⟨t, rfl, t1, hT⟩ := hrel
                    have HT := Lib.hid hT
                    clear hT
                    by_cases ht : t < 4
                    · obtain ⟨y, hy, hix⟩ := ix4 x t ht
                      have Hy := Lib.hid hy
                      have hyr := Hkr.out y (List.mem_of_getElem? hy)
                      have wy : (Lit.int .i64 y).wf = true := WalkArith.wf_i64 (by omega)
                      obtain ⟨c, hc⟩ : ∃ c : Nat, Hid (kidsN s (k - 1) y + (x.kids.take t).count y = c) := ⟨_, rfl⟩
                      have hcl : c ≤ 124 := by
                        have e1 := kidsN_le s y (k - 1)
                        have e2 := List.count_le_length (a := y) (l := x.kids.take t)
                        have e3 := List.length_take_le t x.kids
                        have := hc.out
                        omega
                      have hlk := HT.out.2.look wy
                      rw [show ((kidsN s (k - 1) y : Int) + ((x.kids.take t).count y : Int)) = (c : Int) by have := hc.out; omega] at hlk
                      clear hy
                      go_wp2_with (at_mapUpdate; refine wpList_imap_put HT.out.2 (by omega) rfl _ _ _ rfl rfl _ _ rfl rfl wy ?wv2 ?_)
                      case wv2 => exact WalkArith.wf_i64 (by omega)
                      intro w7 hm7 hg7
                      have HM7 := Lib.hid (show Tl w p b N (j + 1) K2 Kl xs s u7 b2 (4 * (k - 1) + (t + 1)) (fun y => kidsN s (k - 1) y + (x.kids.take (t + 1)).count y) w7 from
                        ⟨HT.out.1.grown hg7 B4.out B2.out B1.out B3.out, (hm7.mono (by omega)).congr fun z _ => by
                          have e : x.kids.take (t + 1) = x.kids.take t ++ [y] := by rw [List.take_add_one, Hy.out]; rfl
                          have := hc.out
                          unfold updI
                          rw [e, List.count_append, List.count_singleton]
                          by_cases e2 : z = y
                          · subst e2; rw [if_pos rfl]; simp; omega
                          · rw [if_neg e2, if_neg (by simpa using fun h => e2 h.symm)]; simp⟩)
                      clear hm7 hg7 hlk
                      go_wp2_with fail
                      go_roundw
                      case rel => exact ⟨t + 1, by go_num, by omega, HM7.out⟩
                      case measure => simp [intOf]; omega
                    · obtain rfl : t = 4 := by omega
                      go_wp2_with fail
                      go_roundw
                      case rel =>
                        refine ⟨k + 1, by go_num, by omega, by omega, HT.out.1, (HT.out.2.mono (by omega)).congr fun z _ => ?_⟩
                        rw [show k + 1 - 1 = k by omega, Hkn.out z]
                        simp [Nd.kids]
                      case measure => simp [intOf]; omega
              · obtain rfl : k = N + 1 := by omega
                go_wp2_with fail
                go_loopw [25] (fun h W => ∃ k : Nat, h = .int .i64 k ∧ 1 ≤ k ∧ k ≤ N + 1 ∧ Tl w p b N (j + 1) K2 Kl xs s u7 b2 (4 * N) (fun x => kidsN s N x) W) (fun h _ => N + 1 - (intOf h).toNat)
                case atStart => exact ⟨1, rfl, by omega, by omega, HT.out⟩
                case round =>
                  obtain ⟨k, rfl, k1, k2, hT⟩ := hrel
                  clear HT H0
                  have HT := Lib.hid hT
                  clear hT
                  by_cases hk : k ≤ N
                  · obtain ⟨g, hg⟩ : ∃ g : Int, Hid ((kidsN s N k : Int) = g) := ⟨_, rfl⟩
                    obtain ⟨f, hf⟩ : ∃ f : Int, Hid ((xs.count (k : Int) : Int) = f) := ⟨_, rfl⟩
                    have hg1 : 0 ≤ g ∧ g ≤ 120 := by rw [← hg.out]; have := kidsN_le s k N; omega
                    have hf1 : 0 ≤ f ∧ f ≤ 121 := by rw [← hf.out]; have := List.count_le_length (a := (k : Int)) (l := xs); have := HT.out.1.len; omega
                    have hc : s.count k = g + f := by
                      have hn := HT.out.1.n
                      have := HT.out.1.acc.eq k k1 (by omega)
                      unfold Ar.count
                      rw [if_neg (by omega), show (k : Int).toNat = k by omega, this, ← hg.out, ← hf.out, kidsN_refs, refs, hn]
                      rfl
                    have wk : (Lit.int .i64 (k : Int)).wf = true := WalkArith.wf_i64 (by omega)
                    have hl1 : ∀ q, (Instr.lookup 39 (.map (some b2)) (.int .i64 k) false).run Try.prog (wr.drewN q) = .ok (.int .i64 g) (wr.drewN q) := fun q => by rw [← hg.out]; exact (HT.out.2.drewN q).look wk
                    have hl2 : ∀ q, (Instr.lookup 39 (.map (some b)) (.int .i64 k) false).run Try.prog (wr.drewN q) = .ok (.int .i64 f) (wr.drewN q) := fun q => by rw [← hf.out]; exact (HT.out.1.map.drewN q).look wk
                    have H := fun q => Lib.hid (count_is k hc (HT.out.1.ars.drewN q) (HT.out.1.ok.fit (by omega)))
                    have hwr : IntKind.i64.wrap (g + f) = g + f := IntWalk.i64_in _ (by omega)
                    clear hc
                    go_wp2_with fail
                    go_quiet ((go_at_call 24; exact quiet_is (H _).out))
                    clear hl1 hl2 hwr H
                    go_wp2_with fail
                    go_roundw
                    case rel => exact ⟨k + 1, by go_num, by omega, by omega, HT.out.drewN _⟩
                    case measure => simp [intOf]; omega
                  · go_wp2_with fail
                    go_roundw
                    case rel => exact ⟨j + 1, by go_num, by omega, _, _, _, _, HT.out.1⟩
                    case measure => simp [intOf]; omega
    · skip
      as_aux_lemma =>
        obtain rfl : m = j := by omega
        obtain ⟨K, Kl, xs, s, hs⟩ := hat
        obtain ⟨L, HL⟩ : ∃ L, Hid (xs.length = L) := ⟨_, rfl⟩
        have hsl := hs.lst.slice
        rw [HL.out] at hsl
        obtain ⟨a, c', rfl⟩ := hsl
        have Hs := Lib.hid hs
        have hlen := hs.len
        rw [HL.out] at hlen
        clear hs
        have hd0 : Dn wr K p N m (xs.drop 0) s wr := ⟨Hs.out.ars, Hs.out.ok, Hs.out.acc, Hs.out.led, Hs.out.n, Kept.refl _ _⟩
        have Hd0 := Lib.hid hd0
        clear hd0
        go_wp2_with fail
        obtain ⟨wo, rfl⟩ : ∃ wo : World, wo = wr := ⟨_, rfl⟩
        go_loopw [240] (fun i W => ∃ t : Nat, i = .int .i64 t ∧ t ≤ L ∧ ∃ s', Dn wo K p N m (xs.drop t) s' W) (fun i _ => L - (intOf i).toNat)
        case atStart => exact ⟨0, rfl, by omega, s, Hd0.out⟩
        case round =>
          obtain ⟨t, rfl, t1, s', hd⟩ := hrel
          have Hd := Lib.hid hd
          clear hd Hd0
          by_cases ht : t < L
          · obtain ⟨g, cp, hsl, hcp, hKg, hcells⟩ := Hs.out.lst.at_ (i := 0) (by rw [HL.out]; omega)
            have hcg : a = some ⟨g, 0, none⟩ := by injection hsl
            subst hcg
            have hcp : L ≤ c' := by injection hsl with _ _ e; rw [e, ← HL.out]; exact hcp
            have hc : wr.cell? ⟨g, t, none⟩ = some (.int .i64 (xs.getD t 0)) := (Hd.out.kept.cell (Hs.out.ars.lt g (Hs.out.sub g hKg)) (Hs.out.sub g hKg)).trans (hcells t (by rw [HL.out]; exact ht))
            have hm := at_idx (xs := xs) (i := t) (by omega) (by rw [HL.out]; omega)
            have hdr : xs.drop t = xs.getD t 0 :: xs.drop (t + 1) := by
              rw [List.drop_eq_getElem_cons (by rw [HL.out]; exact ht), List.getD_eq_getElem?_getD, List.getElem?_eq_getElem (by rw [HL.out]; exact ht)]
              rfl
            rw [show (t : Int).toNat = t by omega] at hm
            have hyr := Hs.out.rng _ hm
            obtain ⟨s2, ek, hn⟩ := Hd.out.drop hdr hyr
            have Hn := Lib.hid hn
            have H := Lib.hid (drop_is _ ek Hd.out.ars (Hd.out.ok.fit (by omega)))
            clear hcells hsl hm hdr ek hn
            generalize xs.getD t 0 = y at *
            go_wp2_with fail
            refine H.out.mono ?_
            rintro e w5 ⟨rfl, ha, hk⟩
            clear H
            go_wp2_with fail
            go_roundw
            case rel => exact ⟨t + 1, by go_num, by omega, s2, Hn.out _ ha hk⟩
            case measure => simp [intOf]; omega
          · obtain rfl : L = t := by omega
            have hd2 : Dn wo K p N m [] s' wr := by have := Hd.out; rwa [← HL.out, List.drop_length] at this
            have Hd2 := Lib.hid hd2
            clear hd2 Hd
            go_wp2_with fail
            go_loopg [] N (fun k W => ∃ s', Dn wo K p N m [] s' W ∧ s'.busy ≤ k)
            case atStart => exact ⟨s', Hd2.out, by have := Hd2.out.ok.busy; have := usedN_le s'.n s'.u; have := Hd2.out.n; omega⟩
            case round =>
              obtain ⟨t, hd, hbk⟩ := hrel
              clear Hd2
              have Hd := Lib.hid hd
              clear hd
              by_cases hw : t.wt = []
              · have H := Lib.hid (pending_is (c := 0) (by rw [hw]; rfl) Hd.out.ars)
                have hb := led_busy Hd.out.led Hd.out.ok Hd.out.acc (fun k _ => rfl) hw
                have H2 := Lib.hid (used_is hb Hd.out.ars)
                clear hw hb
                go_wp2_with fail
                refine H.out.mono ?_
                rintro e w' ⟨rfl, rfl⟩
                go_wp2_with fail
                refine H2.out.mono ?_
                rintro e w' ⟨rfl, rfl⟩
                go_wp2_with fail
                go_ret
                exact ⟨rfl, Hs.out.bel.trans ((Hd.out.kept.mono fun x _ hx => Hs.out.kK x hx).below_of Hs.out.bel.size)⟩
              · obtain ⟨l, hl2⟩ : ∃ l : Int, Hid ((t.wt.length : Int) = l) := ⟨_, rfl⟩
                have hl1 : 0 < l := by rw [← hl2.out]; have := List.length_pos_iff.2 hw; omega
                have H := Lib.hid (pending_is hl2.out Hd.out.ars)
                have hw1 : 1 ≤ (t.work 3).2 := work_some 2 hw
                have hwb := work_busy 3 t
                obtain ⟨r, hr⟩ : ∃ r : Int, Hid (((t.work 3).2 : Int) = r) := ⟨_, rfl⟩
                have hr1 : 1 ≤ r := by rw [← hr.out]; omega
                have H2 := fun W (ha : Ars W K p t) => Lib.hid (work_is (s' := (t.work 3).1) (n := (t.work 3).2) 3 rfl hr.out ha Hd.out.ok (by omega) (by omega))
                have Hwb := Lib.hid hwb
                clear hw hw1 hwb
                go_wp2_with fail
                refine H.out.mono ?_
                rintro e w' ⟨rfl, rfl⟩
                have H3 := H2 _ Hd.out.ars
                clear H2 H
                go_wp2_with fail
                refine H3.out.mono ?_
                rintro e w5 ⟨rfl, ha, hk⟩
                clear H3
                go_wp2_with fail
                have hb0 : 0 ≤ (t.work 3).1.busy := by have := (ok_work 3 Hd.out.ok).busy; omega
                have hb1 := Hwb.out
                rw [hr.out] at hb1
                go_roundg (gk - 1)
                case measure => omega
                case rel => exact ⟨(t.work 3).1, Hd.out.work ha hk, by omega⟩

set_option maxRecDepth 100000 in
theorem lifted (os : Os) (started : os.Started) (H : Type) (enc : TypeId × Value → H) :
    ReturnsInHanded {} Try.checked os 7 .any (Rows.arenaCountsSpec.pre6 enc Try.prog Try.f7 Rows.arenaCountsRow.domain false) (Rows.arenaCountsSpec.post enc Try.prog Try.f7 false true false false) := by
  refine returnsInHanded_of_change (C := Try.checked) own_ started (by kernel_rfl) Try.func7
    (ChangeSpec.witness6 (enc := enc) (C := Try.checked) false ⟨#[], #[.int .i64 0, .slice none 0 0], []⟩ 8 (by kernel_rfl) (by kernel_rfl) (by kernel_rfl) (by kernel_rfl)) ?_
  intro W base args ds gs before hval0 hW _ _
  have hval : ∀ (j : Nat) t v, Try.f7.params[j]? = some t → args[j]? = some v → Value.okWide Try.prog W .any base t v := hval0
  have hW' := hW
  obtain ⟨p, q, hA0, hV, rfl, hfz, hnd⟩ := hW
  have hA : DataW.TrodAll enc Try.prog W 0 (fun _ => true) true Try.f7.params.toList args.toList ds p := hA0
  rw [Try.params7] at hA hval
  obtain ⟨v0, vs0, d0, ds0, p0, q0, hargs, rfl, rfl, h0, r0⟩ := trodAll_cons hA
  obtain ⟨v1, vs1, d1, ds1, p1, q1, rfl, rfl, rfl, h1, r1⟩ := trodAll_cons r0
  obtain ⟨rfl, rfl, rfl⟩ := trodAll_nil r1
  obtain rfl : args = #[v0, v1] := by cases args; simp_all
  obtain ⟨a0, rfl, rfl, rfl, w0⟩ := open_int Try.underlying3 (hval 0 3 v0 rfl rfl) h0
  obtain ⟨m1, x1, hx1⟩ := flat_arg (ks := opKs) (n := 5) Try.underlying38 (by kernel_rfl) (by kernel_rfl) (by decide) (hval 1 38 v1 rfl rfl) h1
  clear hA0 hval0
  refine (walk a0 w0 v1 m1 x1 W hx1).mono fun e W' ⟨he, hg⟩ => ?_
  subst he
  exact ⟨_, rfl, law_post laid_ (by kernel_rfl) rfl hW' hg rfl Try.underlying4 ⟨rfl, rfl, rfl⟩⟩

theorem over : Rows.arenaCountsRow.holds Try.pinned (OpenSpec.ofChange Rows.arenaCountsSpec) :=
  OpenClaim.holds_of_wide 7 Try.f7 rfl rfl rfl rfl rfl rfl rfl ⟨rfl, rfl, rfl, rfl, rfl⟩ rfl rfl rfl rfl rfl (by kernel_rfl) Try.func7 (by kernel_rfl)
    (of_decide_eq_true (by kernel_rfl)) (by unfold Func.isWrapper; first | (rw [if_pos (by decide +kernel)]; kernel_rfl) | (rw [if_neg (by decide +kernel)]; exact ⟨rfl, rfl⟩))
    (fun os started H enc _ => lifted os started H enc)

theorem proved : Rows.ArenaCountsSaid :=
  over
#print axioms proved
end Go.Proofs.Ytajkhkgakafgkaa.arenaCounts

