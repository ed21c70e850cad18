/- A symbol is taken out: what comes of it, level by level. -/
import Derived.Test.YtdipgcbppggdhaaWv7
import Derived.Test.YtdipgcbppggdhaaWv8
namespace Go.Proofs.Ytdipgcbppggdhaa
set_option maxRecDepth 100000
open Go.RowKit
set_option maxHeartbeats 1000000 in
theorem wcut_last (p : Nat) (h i : Int) (w : World) : Calls Try.prog 39 #[.pointer (some ⟨p, 0, none⟩), .int .i64 h, .int .i64 i, .int .i64 9] w fun o w' => o = .returned (.tuple #[.int .i64 0, .int .i64 0]) ∧ w = w' := by
  go_enter Try.func39, Try.ntmps39
  go_wp2_with fail
  go_ret2
  exact ⟨rfl, rfl⟩
theorem brep_nil {s : Ar} {k : Int} {t : BT} (h : BRep s k t) (hf : t.Fine) : k = 0 ↔ t.list = [] := by
  constructor
  · rintro rfl
    cases t with
    | nil => rfl
    | leaf l => exact absurd h.1 (by decide)
    | fork x y => exact absurd h.1 (by decide)
  · intro e
    have h0 : t.len = 0 := by rw [← t.len_list, e]; rfl
    have := BT.isNil_eq (hf.nil_iff.2 h0)
    subst this
    exact h
theorem wDel_nil {xs : List Nat} {i : Nat} (hi : i < xs.length) (h : wDel xs i = []) (p : Nat → Bool) (hp : p (xs.getD i 0) = false) : xs.filter p = [] := by
  rw [← wDel_filter_no hi hp, h]
  rfl
theorem wcut_ex : ∀ (n : Nat), n ≤ 9 → ∀ {s : Ar} {L : List Int} {h : Int} {xs : List Nat} {i : Nat}, Gd s L → (0 : Int) ∈ L → WRep s n h xs → BFirm s L h → (n = 0 ∨ i < xs.length) → xs.length ≤ 5000 → L.length + 10 * n ≤ 300000 → s.made - s.busy ≤ 1000000000 →
    ∃ (s' : Ar) (e' q : Int), Went s s' (n * (3 * hi xs.length + 2)) ∧ EOk s' e' ∧ Gd s' (q :: L) ∧ (e' ≠ 0 → q = 0) ∧ (0 ≤ q ∧ q ≤ s'.n) ∧ (e' = 0 → WRep s' n q (wDel xs i)) ∧
      ∀ {K : Nat → Prop} {p : Nat} {w : World}, Ars w K p s → Calls Try.prog 39 #[.pointer (some ⟨p, 0, none⟩), .int .i64 h, .int .i64 i, .int .i64 (9 - n : Nat)] w fun o w' => o = .returned (.tuple #[.int .i64 q, .int .i64 e']) ∧ Ars w' K p s' ∧ Kept K w w'
  | 0, _, s, L, h, xs, i, g, hz, r, f, _, hx, hL, hm => by
    refine ⟨s, 0, 0, (Went.refl s).mono (Nat.zero_le _), .inl rfl, g.zero, fun _ => rfl, ?_, fun _ => rfl, fun {K p w} ha => (wcut_last p h i w).mono ?_⟩
    · have := g.n1; omega
    · rintro o w' ⟨rfl, rfl⟩
      exact ⟨rfl, ha, Kept.refl _ _⟩
  | n + 1, hn, s, L, h, xs, i, g, hz, r, f, hi', hx, hL, hm => by
    have sn : Snd s := g.snd (by omega) hm
    have hil : i < xs.length := by omega
    obtain ⟨x, N⟩ := wnode g sn hz r f (by omega)
    obtain ⟨one, ho⟩ : ∃ one, one = wb n (xs.getD i 0) := ⟨_, rfl⟩
    obtain ⟨m, hm0⟩ : ∃ m, m = ((xs.map (wb n)).take i).count one := ⟨_, rfl⟩
    have hkid : WRep s n (if one then x.k2 else x.k1) (xs.filter fun y => wb n y == one) ∧ BFirm s L (if one then x.k2 else x.k1) := by
      cases one
      · rw [(bit_eq (wb n) xs).2]; exact ⟨N.zero, N.fz⟩
      · rw [(bit_eq (wb n) xs).1]; exact ⟨N.one, N.fo⟩
    have hoth : WRep s n (if one then x.k1 else x.k2) (xs.filter fun y => wb n y == !one) ∧ BFirm s L (if one then x.k1 else x.k2) := by
      cases one
      · show WRep s n x.k2 (xs.filter fun y => wb n y == true) ∧ _
        rw [(bit_eq (wb n) xs).1]; exact ⟨N.one, N.fo⟩
      · show WRep s n x.k1 (xs.filter fun y => wb n y == false) ∧ _
        rw [(bit_eq (wb n) xs).2]; exact ⟨N.zero, N.fz⟩
    have hyl : (xs.filter fun y => wb n y == one).length ≤ xs.length := List.length_filter_le _ _
    have hpv : (fun y => wb n y == one) (xs.getD i 0) = true := by show (wb n (xs.getD i 0) == one) = true; rw [ho]; simp
    have hct : (xs.take i).countP (fun y => wb n y == one) = m := by rw [hm0, cnt_one]
    obtain ⟨fy, hmy, _⟩ := wDel_filter_yes (p := fun y => wb n y == one) hil hpv
    rw [hct] at fy hmy
    have hnv : (fun y => wb n y == !one) (xs.getD i 0) = false := by show (wb n (xs.getD i 0) == !one) = false; rw [ho]; cases wb n (xs.getD i 0) <;> rfl
    have fn : (wDel xs i).filter (fun y => wb n y == !one) = xs.filter fun y => wb n y == !one := wDel_filter_no (p := fun y => wb n y == !one) hil hnv
    obtain ⟨s1, e1, u, W1, o1, g1, z1, q1, r1, c1⟩ := wcut_ex n (by omega) (i := m) g hz hkid.1 hkid.2 (.inr hmy) (by omega) (by omega) hm
    have hhi := hi_mono hyl
    have m1 := W1.md
    have lev : (((8 - n : Nat) : Int) + 1) = ((9 - n : Nat) : Int) := by omega
    have lev2 : ((9 - (n + 1) : Nat) : Int) = ((8 - n : Nat) : Int) := by omega
    have hrow := @N.row
    have hbit : ∀ {w : World} {K : Nat → Prop} {p : Nat}, Ars w K p s → Calls Try.prog 35 #[.pointer (some ⟨p, 0, none⟩), .int .i64 x.k0, .int .i64 i] w fun e w' => e = .returned (.tuple #[.bool one, .bool true]) ∧ Below w.heap.size w w' := fun {w K p} ha => by
      have h := fget_row (i := i) g sn N.bits ha (by rw [List.length_map]; omega)
      have eb : (xs.map (wb n)).getD i false = one := by
        rw [ho]
        simp [List.getD, hil]
      rw [eb] at h
      exact h
    have hal : ∀ {w : World} {K : Nat → Prop} {p : Nat}, Ars w K p s → Calls Try.prog 31 #[.pointer (some ⟨p, 0, none⟩), .int .i64 x.k0, .int .i64 i, .bool one] w fun e w' => e = .returned (.int .i64 m) ∧ Below w.heap.size w w' := fun {w K p} ha => by
      rw [hm0]
      exact alike_in (i := i) one g sn N.bits (by rw [List.length_map]; omega) (by rw [List.length_map]; omega) ha
    have hin : ∀ {w : World} {K : Nat → Prop} {p : Nat}, Ars w K p s → Calls Try.prog 39 #[.pointer (some ⟨p, 0, none⟩), .int .i64 (if one then x.k2 else x.k1), .int .i64 m, .int .i64 (((8 - n : Nat) : Int) + 1)] w fun o w' => o = .returned (.tuple #[.int .i64 u, .int .i64 e1]) ∧ Ars w' K p s1 ∧ Kept K w w' := fun {w K p} ha => by
      rw [lev]
      exact c1 ha
    by_cases c1e : e1 = 0
    · subst c1e
      obtain ⟨k, hk⟩ : ∃ k, k = (if one then x.k1 else x.k2) := ⟨_, rfl⟩
      rw [← hk] at hoth
      have hkr := (hoth.1.ext W1.ext).range
      have g2 := gd_keep0 g1 (hoth.2.ext W1.ext (L' := u :: L) fun y hy => List.mem_cons_of_mem _ hy) hkr
      have W2 := went_keep s1 k
      have m2 := W2.md
      have sn1 : Snd s1 := g1.snd (by simp; omega) (by omega)
      have fr2 : FRow (s1.keep k).1 (k :: u :: L) x.k0 (xs.map (wb n)) := N.bits.ext (W1.ext.trans W2.ext) fun y hy => List.mem_cons_of_mem _ (List.mem_cons_of_mem _ hy)
      obtain ⟨s3, e3, kb, W3, o3, g3, z3, q3, r3, c3⟩ := fdelete_ex (i := i) g2 fr2 (by rw [List.length_map]; exact hil) (by simp; omega) (by omega)
      rw [List.length_map] at W3
      have m3 := W3.md
      have sn3 : Snd s3 := g3.snd (by simp; omega) (by omega)
      obtain ⟨z, hzz⟩ : ∃ z, z = (if one then x.k1 else u) := ⟨_, rfl⟩
      obtain ⟨o, hoo⟩ : ∃ o, o = (if one then u else x.k2) := ⟨_, rfl⟩
      have E13 := W2.ext.trans W3.ext
      have n13 := E13.n
      have hzo : (z = k ∧ o = u) ∨ (z = u ∧ o = k) := by
        cases one
        · exact .inr ⟨hzz, by rw [hoo, hk]; rfl⟩
        · exact .inl ⟨by rw [hzz, hk]; rfl, hoo⟩
      have gp : Gd s3 ([kb, z, o, 0] ++ L) := g3.perm fun j hj => by
        show cnt (kb :: z :: o :: 0 :: L) j = _
        simp only [cnt_cons]
        rw [if_neg (show ¬ (0 : Int) = (j : Int) by omega)]
        rcases hzo with ⟨rfl, rfl⟩ | ⟨rfl, rfl⟩ <;> omega
      have rzo : ∀ y, y ∈ [kb, z, o, (0 : Int)] → 0 ≤ y ∧ y ≤ s3.n := fun y hy => by
        have h : y = kb ∨ y = z ∨ y = o ∨ y = 0 := by simpa using hy
        have hn1 := g3.n1
        rcases hzo with ⟨e, e'⟩ | ⟨e, e'⟩ <;> rcases h with h | h | h | h <;> omega
      have hkp : ∀ {w : World} {K : Nat → Prop} {p : Nat}, Ars w K p s1 → ∃ ek, Calls Try.prog 49 #[.pointer (some ⟨p, 0, none⟩), .int .i64 (if one then x.k1 else x.k2)] w fun o w' => o = .returned (.int .i64 ek) ∧ Ars w' K p (s1.keep k).1 ∧ Kept K w w' := fun {w K p} ha => ⟨(s1.keep k).2, by rw [← hk]; exact keep_is k rfl ha sn1.fit⟩
      have cost : n * (3 * hi (xs.filter fun y => wb n y == one).length + 2) ≤ n * (3 * hi xs.length + 2) := Nat.mul_le_mul_left _ (by omega)
      have cost2 : (n + 1) * (3 * hi xs.length + 2) = n * (3 * hi xs.length + 2) + (3 * hi xs.length + 2) := by rw [Nat.add_mul, Nat.one_mul]
      by_cases e30 : e3 = 0
      · subst e30
        obtain ⟨t, t1, t2, t3⟩ := r3 rfl
        rw [← wDel_map] at t3
        have hkb : kb = 0 ↔ wDel xs i = [] := by rw [brep_nil t1 t2, t3, List.map_eq_nil_iff]
        by_cases kb0 : kb = 0
        · have hnil := hkb.1 kb0
          subst kb0
          have g4 := gd_drops [0, z, o, 0] (L := L) gp rzo
          refine ⟨s3.drops [0, z, o, 0], 0, 0, (W1.trans (W2.trans (W3.trans (went_drops [0, z, o, 0] s3)))).mono (by omega), .inl rfl, g4.zero, fun _ => rfl, ?_, fun _ => .inl ⟨hnil, rfl⟩, fun {K p w} ha => ?_⟩
          · have := g4.n1; omega
          · rw [lev2]
            exact wcut_walk (by omega) hrow hbit hal hin hkp (fun ha => c3 ha) (fun ha => by rw [← hzz, ← hoo]; exact wmade_none sn3 ha) rfl ha
        · obtain ⟨s4, e4, q, hnode, W4, o4, g4, z4, st4, u4⟩ := node_ex (x := ⟨3, kb, z, o, 0, 0, 0⟩) (L := L) gp (.inl rfl) (by show 1 ≤ (3 : Int) ∧ (3 : Int) ≤ 6; omega) (fun y hy => by have := rzo y hy; omega)
          refine ⟨s4, e4, q, (W1.trans (W2.trans (W3.trans W4))).mono (by omega), o4, g4, z4, ?_, fun e0 => ?_, fun {K p w} ha => ?_⟩
          · by_cases c4 : e4 = 0
            · obtain ⟨a1, a2, _⟩ := u4 c4
              omega
            · rw [z4 c4]
              have := g4.n1
              omega
          · obtain ⟨a1, a2, a3, a4, _⟩ := u4 e0
            have E4 := E13.trans W4.ext
            have hu := (r1 rfl).ext E4
            have hko := hoth.1.ext (W1.ext.trans E4)
            rw [← fy] at hu
            rw [← fn] at hko
            refine .inr ⟨fun e => kb0 (hkb.2 e), a1, a2, a3, kb, z, o, t, a4, t1.ext W4.ext, t2, t3, ?_, ?_⟩
            · rw [← (bit_eq (wb n) (wDel xs i)).2]
              cases one
              · have e : z = u := hzz
                rw [e]; exact hu
              · have e : z = x.k1 := hzz
                have e2 : k = x.k1 := hk
                rw [e, ← e2]; exact hko
            · rw [← (bit_eq (wb n) (wDel xs i)).1]
              cases one
              · have e : o = x.k2 := hoo
                have e2 : k = x.k2 := hk
                rw [e, ← e2]; exact hko
              · have e : o = u := hoo
                rw [e]; exact hu
          · rw [lev2]
            exact wcut_walk (by omega) hrow hbit hal hin hkp (fun ha => c3 ha) (fun ha => by rw [← hzz, ← hoo]; exact wmade_ok (by omega) hnode sn3 ha) rfl ha
      · have kb0 := z3 e30
        subst kb0
        have g4 := gd_drops [0, z, o, 0] (L := L) gp rzo
        refine ⟨s3.drops [0, z, o, 0], e3, 0, (W1.trans (W2.trans (W3.trans (went_drops [0, z, o, 0] s3)))).mono (by omega), o3.imp id fun ⟨a, b⟩ => ⟨a, by rw [drops_busy, drops_n]; exact b⟩, g4.zero, fun _ => rfl, ?_, fun e => absurd e e30, fun {K p w} ha => ?_⟩
        · have := g4.n1; omega
        · rw [lev2]
          exact wcut_walk (by omega) hrow hbit hal hin hkp (fun ha => c3 ha) (fun ha => by rw [← hzz, ← hoo]; exact wmade_err e30 sn3 ha) rfl ha
    · have u0 := z1 c1e
      subst u0
      have cost : n * (3 * hi (xs.filter fun y => wb n y == one).length + 2) ≤ n * (3 * hi xs.length + 2) := Nat.mul_le_mul_left _ (by omega)
      have cost2 : (n + 1) * (3 * hi xs.length + 2) = n * (3 * hi xs.length + 2) + (3 * hi xs.length + 2) := by rw [Nat.add_mul, Nat.one_mul]
      refine ⟨s1, e1, 0, W1.mono (by omega), o1, g1, fun _ => rfl, ?_, fun e => absurd e c1e, fun {K p w} ha => ?_⟩
      · have := g1.n1; omega
      · rw [lev2]
        exact wcut_err (by omega) hrow hbit hal hin c1e ha
end Go.Proofs.Ytdipgcbppggdhaa
