/- Package wave: a symbol more, a symbol less, at the package's door; all symbols. -/
import Derived.Test.YtdipgcbppggdhaaWv12
namespace Go.Proofs.Ytdipgcbppggdhaa
set_option maxRecDepth 100000
open Go.RowKit
section
variable {K : Nat → Prop} {p : Nat} {s s' : Ar} {L L' : List Int} {w : World} {h : Int} {xs : List Nat}
set_option maxHeartbeats 4000000 in
theorem winsert_door {i v : Nat} {q e' : Int} (hv : v < 257) (hi : i ≤ xs.length)
    (HL : Calls Try.prog 20 #[.pointer (some ⟨p, 0, none⟩), .int .i64 h] w fun e w' => e = .returned (.int .i64 xs.length) ∧ Below w.heap.size w w')
    (HI : ∀ {w : World} {K : Nat → Prop} {p : Nat}, Ars w K p s → Calls Try.prog 36 #[.pointer (some ⟨p, 0, none⟩), .int .i64 h, .int .i64 i, .int .i64 v, .int .i64 0] w fun o w' => o = .returned (.tuple #[.int .i64 q, .int .i64 e']) ∧ Ars w' K p s' ∧ Kept K w w') (ha : Ars w K p s) :
    Calls Try.prog 17 #[.pointer (some ⟨p, 0, none⟩), .int .i64 h, .int .i64 i, .int .i64 v] w fun o w' => o = .returned (.tuple #[.int .i64 q, .int .i64 e']) ∧ Ars w' K p s' ∧ Kept K w w' := by
  have HIs := Lib.hid (wis_is v hv w)
  replace HL := Lib.hid HL
  have HIn := fun W ha => Lib.hid (HI (w := W) (K := K) (p := p) ha)
  have Ha := Lib.hid ha
  obtain ⟨n, hn⟩ : ∃ n, n = xs.length := ⟨_, rfl⟩
  rw [← hn] at HL hi
  have hiI : (i : Int) ≤ (n : Int) := by omega
  have hid : decide ((n : Int) < (i : Int)) = false := by simp; omega
  have hid2 : decide (n < i) = false := by simp; omega
  clear hn HI ha hv hi
  go_enter Try.func17, Try.ntmps17
  go_wp2_with fail
  refine HIs.out.mono ?_
  rintro o w' ⟨rfl, rfl⟩
  go_wp2_with fail
  refine HL.out.mono ?_
  rintro o w1 ⟨rfl, hb⟩
  have A1 := Lib.hid (Ha.out.below hb)
  have K1 := Lib.hid (Kept.of_below hb K)
  clear hb Ha HL
  go_wp2_with fail
  refine (HIn _ A1.out).out.mono ?_
  rintro o w2 ⟨rfl, ha, hk⟩
  go_wp2_with fail
  go_ret2
  exact ⟨rfl, ha, K1.out.trans hk⟩
set_option maxHeartbeats 4000000 in
theorem winsert_arg {v : Int} (hv : v < 0 ∨ 257 ≤ v) (a b c : Value) (w : World) :
    Calls Try.prog 17 #[a, b, c, .int .i64 v] w fun o w' => o = .returned (.tuple #[.int .i64 0, .int .i64 1]) ∧ w = w' := by
  have HIs := Lib.hid (wis_no v hv w)
  clear hv
  go_enter Try.func17, Try.ntmps17
  go_wp2_with fail
  refine HIs.out.mono ?_
  rintro o w' ⟨rfl, rfl⟩
  go_wp2_with fail
  go_ret2
  exact ⟨rfl, rfl⟩
set_option maxHeartbeats 4000000 in
theorem winsert_low {i : Int} {v : Nat} (hv : v < 257) (hi : i < 0) (a b : Value) (w : World) :
    Calls Try.prog 17 #[a, b, .int .i64 i, .int .i64 v] w fun o w' => o = .returned (.tuple #[.int .i64 0, .int .i64 3]) ∧ w = w' := by
  have HIs := Lib.hid (wis_is v hv w)
  clear hv
  go_enter Try.func17, Try.ntmps17
  go_wp2_with fail
  refine HIs.out.mono ?_
  rintro o w' ⟨rfl, rfl⟩
  go_wp2_with fail
  go_ret2
  exact ⟨rfl, rfl⟩
set_option maxHeartbeats 4000000 in
theorem winsert_high {i : Int} {v n : Nat} {a b : Value} (hv : v < 257) (hi : (n : Int) < i) (hn : n ≤ 5000)
    (HL : Calls Try.prog 20 #[a, b] w fun e w' => e = .returned (.int .i64 n) ∧ Below w.heap.size w w') :
    Calls Try.prog 17 #[a, b, .int .i64 i, .int .i64 v] w fun o w' => o = .returned (.tuple #[.int .i64 0, .int .i64 3]) ∧ Below w.heap.size w w' := by
  have HIs := Lib.hid (wis_is v hv w)
  replace HL := Lib.hid HL
  have hi0 : 0 ≤ i := by omega
  clear hv hn
  go_enter Try.func17, Try.ntmps17
  go_wp2_with fail
  refine HIs.out.mono ?_
  rintro o w' ⟨rfl, rfl⟩
  go_wp2_with fail
  refine HL.out.mono ?_
  rintro o w1 ⟨rfl, hb⟩
  go_wp2_with fail
  go_ret2
  exact ⟨rfl, hb⟩
set_option maxHeartbeats 4000000 in
theorem wdelete_door {i : Nat} {q e' : Int} (hi : i < xs.length)
    (HL : Calls Try.prog 20 #[.pointer (some ⟨p, 0, none⟩), .int .i64 h] w fun e w' => e = .returned (.int .i64 xs.length) ∧ Below w.heap.size w w')
    (HI : ∀ {w : World} {K : Nat → Prop} {p : Nat}, Ars w K p s → Calls Try.prog 39 #[.pointer (some ⟨p, 0, none⟩), .int .i64 h, .int .i64 i, .int .i64 0] w fun o w' => o = .returned (.tuple #[.int .i64 q, .int .i64 e']) ∧ Ars w' K p s' ∧ Kept K w w') (ha : Ars w K p s) :
    Calls Try.prog 21 #[.pointer (some ⟨p, 0, none⟩), .int .i64 h, .int .i64 i] w fun o w' => o = .returned (.tuple #[.int .i64 q, .int .i64 e']) ∧ Ars w' K p s' ∧ Kept K w w' := by
  replace HL := Lib.hid HL
  have HIn := fun W ha => Lib.hid (HI (w := W) (K := K) (p := p) ha)
  have Ha := Lib.hid ha
  obtain ⟨n, hn⟩ : ∃ n, n = xs.length := ⟨_, rfl⟩
  rw [← hn] at HL hi
  have hiI : (i : Int) < (n : Int) := by omega
  have hid : decide ((n : Int) ≤ (i : Int)) = false := by simp; omega
  have hid2 : decide (n ≤ i) = false := by simp; omega
  clear hn HI ha hi
  go_enter Try.func21, Try.ntmps21
  go_wp2_with fail
  refine HL.out.mono ?_
  rintro o w1 ⟨rfl, hb⟩
  have A1 := Lib.hid (Ha.out.below hb)
  have K1 := Lib.hid (Kept.of_below hb K)
  clear hb Ha HL
  go_wp2_with fail
  refine (HIn _ A1.out).out.mono ?_
  rintro o w2 ⟨rfl, ha, hk⟩
  go_wp2_with fail
  go_ret2
  exact ⟨rfl, ha, K1.out.trans hk⟩
set_option maxHeartbeats 4000000 in
theorem wdelete_low {i : Int} (hi : i < 0) (a b : Value) (w : World) :
    Calls Try.prog 21 #[a, b, .int .i64 i] w fun o w' => o = .returned (.tuple #[.int .i64 0, .int .i64 3]) ∧ w = w' := by
  go_enter Try.func21, Try.ntmps21
  go_wp2_with fail
  go_ret2
  exact ⟨rfl, rfl⟩
set_option maxHeartbeats 4000000 in
theorem wdelete_high {i : Int} {n : Nat} {a b : Value} (hi : (n : Int) ≤ i) (hn : n ≤ 5000)
    (HL : Calls Try.prog 20 #[a, b] w fun e w' => e = .returned (.int .i64 n) ∧ Below w.heap.size w w') :
    Calls Try.prog 21 #[a, b, .int .i64 i] w fun o w' => o = .returned (.tuple #[.int .i64 0, .int .i64 3]) ∧ Below w.heap.size w w' := by
  replace HL := Lib.hid HL
  have hi0 : 0 ≤ i := by omega
  clear hn
  go_enter Try.func21, Try.ntmps21
  go_wp2_with fail
  refine HL.out.mono ?_
  rintro o w1 ⟨rfl, hb⟩
  go_wp2_with fail
  go_ret2
  exact ⟨rfl, hb⟩
/-- A symbol is put in: what comes of it. -/
theorem wInsert_ex {i v : Nat} (g : Gd s L) (r : WRow s L h xs) (hi' : i ≤ xs.length) (hx : xs.length < 5000) (hv : v < 257) (hL : L.length ≤ 200000) (hm : s.made - s.busy ≤ 1000000000) :
    ∃ s' e' q, Went s s' (9 * (3 * hi xs.length + 2)) ∧ EOk s' e' ∧ Gd s' (q :: L) ∧ (e' ≠ 0 → q = 0) ∧ (e' = 0 → WRow s' (q :: L) q (wIns xs i v)) ∧
      ∀ {K : Nat → Prop} {p : Nat} {w : World}, Ars w K p s → Calls Try.prog 17 #[.pointer (some ⟨p, 0, none⟩), .int .i64 h, .int .i64 i, .int .i64 v] w fun o w' => o = .returned (.tuple #[.int .i64 q, .int .i64 e']) ∧ Ars w' K p s' ∧ Kept K w w' := by
  have sn : Snd s := g.snd (by omega) hm
  obtain ⟨s', e', q, W, eo, g', z, rg, rr, c⟩ := wins_ex 9 (by omega) (i := i) (v := v) g.zero List.mem_cons_self r.rep r.firm (.inr hi') hx hv (by simp; omega) hm
  refine ⟨s', e', q, W, eo, g'.swap.unzero, z, fun e0 => ⟨rr e0, .inr List.mem_cons_self, by rw [wIns_len hi']; omega, wins_sym r.sym hv⟩, fun {K p w} ha => winsert_door hv hi' (wlen_row g sn r ha) (fun ha => c ha) ha⟩
/-- A symbol is taken out: what comes of it. -/
theorem wDelete_ex {i : Nat} (g : Gd s L) (r : WRow s L h xs) (hi' : i < xs.length) (hL : L.length ≤ 200000) (hm : s.made - s.busy ≤ 1000000000) :
    ∃ s' e' q, Went s s' (9 * (3 * hi xs.length + 2)) ∧ EOk s' e' ∧ Gd s' (q :: L) ∧ (e' ≠ 0 → q = 0) ∧ (e' = 0 → WRow s' (q :: L) q (wDel xs i)) ∧
      ∀ {K : Nat → Prop} {p : Nat} {w : World}, Ars w K p s → Calls Try.prog 21 #[.pointer (some ⟨p, 0, none⟩), .int .i64 h, .int .i64 i] w fun o w' => o = .returned (.tuple #[.int .i64 q, .int .i64 e']) ∧ Ars w' K p s' ∧ Kept K w w' := by
  have sn : Snd s := g.snd (by omega) hm
  have hx := r.len
  obtain ⟨s', e', q, W, eo, g', z, rg, rr, c⟩ := wcut_ex 9 (by omega) (i := i) g.zero List.mem_cons_self r.rep r.firm (.inr hi') hx (by simp; omega) hm
  refine ⟨s', e', q, W, eo, g'.swap.unzero, z, fun e0 => ⟨rr e0, .inr List.mem_cons_self, by have := wDel_len hi'; omega, wdel_sym r.sym⟩, fun {K p w} ha => wdelete_door hi' (wlen_row g sn r ha) (fun ha => c ha) ha⟩
theorem eok_room {e' : Int} {k : Nat} (W : Went s s' k) (h : EOk s' e') (room : s.busy + (k : Nat) < s.n) : e' = 0 := by
  rcases h with h | ⟨_, h⟩
  · exact h
  · obtain ⟨j, hj, _, hb⟩ := W.made
    have := W.ext.n
    omega
/-- Where there is room. -/
theorem wInsert_yes {i v : Nat} (g : Gd s L) (r : WRow s L h xs) (hi' : i ≤ xs.length) (hx : xs.length < 5000) (hv : v < 257) (hL : L.length ≤ 200000) (hm : s.made - s.busy ≤ 1000000000) (room : s.busy + (9 * (3 * hi xs.length + 2) : Nat) < s.n) :
    ∃ s' q, Went s s' (9 * (3 * hi xs.length + 2)) ∧ Gd s' (q :: L) ∧ WRow s' (q :: L) q (wIns xs i v) ∧
      ∀ {K : Nat → Prop} {p : Nat} {w : World}, Ars w K p s → Calls Try.prog 17 #[.pointer (some ⟨p, 0, none⟩), .int .i64 h, .int .i64 i, .int .i64 v] w fun o w' => o = .returned (.tuple #[.int .i64 q, .int .i64 0]) ∧ Ars w' K p s' ∧ Kept K w w' := by
  obtain ⟨s', e', q, a1, a2, a3, _, a5, a6⟩ := wInsert_ex (i := i) (v := v) g r hi' hx hv hL hm
  have e0 := eok_room a1 a2 room
  subst e0
  exact ⟨s', q, a1, a3, a5 rfl, a6⟩
theorem wDelete_yes {i : Nat} (g : Gd s L) (r : WRow s L h xs) (hi' : i < xs.length) (hL : L.length ≤ 200000) (hm : s.made - s.busy ≤ 1000000000) (room : s.busy + (9 * (3 * hi xs.length + 2) : Nat) < s.n) :
    ∃ s' q, Went s s' (9 * (3 * hi xs.length + 2)) ∧ Gd s' (q :: L) ∧ WRow s' (q :: L) q (wDel xs i) ∧
      ∀ {K : Nat → Prop} {p : Nat} {w : World}, Ars w K p s → Calls Try.prog 21 #[.pointer (some ⟨p, 0, none⟩), .int .i64 h, .int .i64 i] w fun o w' => o = .returned (.tuple #[.int .i64 q, .int .i64 0]) ∧ Ars w' K p s' ∧ Kept K w w' := by
  obtain ⟨s', e', q, a1, a2, a3, _, a5, a6⟩ := wDelete_ex (i := i) g r hi' hL hm
  have e0 := eok_room a1 a2 room
  subst e0
  exact ⟨s', q, a1, a3, a5 rfl, a6⟩
end
/-- Symbols as numbers of Go. -/
def zl (xs : List Nat) : List Int := xs.map fun x : Nat => (x : Int)
theorem zl_len (xs : List Nat) : (zl xs).length = xs.length := List.length_map ..
theorem zl_snoc {xs : List Nat} {j : Nat} (h : j < xs.length) : zl (xs.take j) ++ [((xs.getD j 0 : Nat) : Int)] = zl (xs.take (j + 1)) := by
  unfold zl
  rw [List.take_add_one, List.map_append]
  simp [List.getD, h]
section
variable {K : Nat → Prop} {p : Nat} {s s' : Ar} {L L' : List Int} {w : World} {h : Int} {xs : List Nat}
set_option maxRecDepth 100000 in
set_option maxHeartbeats 4000000 in
/-- All symbols, where their number and each of them is told. -/
theorem wall_of {n : Nat} (hn : n = xs.length) (hx : n ≤ 100000)
    (HLen : ∀ W, Ars W K p s → Calls Try.prog 20 #[.pointer (some ⟨p, 0, none⟩), .int .i64 h] W fun r w' => r = .returned (.int .i64 n) ∧ Below W.heap.size W w')
    (HGet : ∀ W, Ars W K p s → ∀ i : Nat, i < n → Calls Try.prog 16 #[.pointer (some ⟨p, 0, none⟩), .int .i64 h, .int .i64 i] W fun e w' => e = .returned (.tuple #[.int .i64 (xs.getD i 0 : Nat), .bool true]) ∧ Below W.heap.size W w') (ha : Ars w K p s) :
    Calls Try.prog 23 #[.pointer (some ⟨p, 0, none⟩), .int .i64 h] w fun e w' => ∃ v K', e = .returned v ∧ Lst w' w.heap.size K' v (zl xs) ∧ (∀ b, K' b → b < w'.heap.size) ∧ Below w.heap.size w w' := by
  have HN := Lib.hid hn
  have HX := Lib.hid hx
  replace HLen := Lib.hid HLen
  replace HGet := Lib.hid HGet
  have Ha := Lib.hid ha
  clear ha hx hn
  go_enter Try.func23, Try.ntmps23
  go_wp2_with fail
  refine (HLen.out _ Ha.out).mono ?_
  rintro e w1 ⟨rfl, hb⟩
  have Hb := Lib.hid hb
  clear hb HLen
  go_wp2_with fail
  go_loopw [5, 12] (fun v k W => ∃ (j : Nat) (Kl : Nat → Prop), k = .int .i64 (j : Int) ∧ j ≤ n ∧ Lst W w.heap.size Kl v (zl (xs.take j)) ∧ (∀ b, Kl b → b < W.heap.size) ∧ Below w.heap.size w W) (fun _ k _ => n - (intOf k).toNat)
  case atStart => exact ⟨0, fun _ => False, rfl, by omega, Lst.nil _ _ _, fun b hb => hb.elim, Hb.out⟩
  case round =>
    obtain ⟨j, Kl, rfl, j1, hl, hlt, hbl⟩ := hrel
    have Hl := Lib.hid hl
    have Hlt := Lib.hid hlt
    have Hbl := Lib.hid hbl
    clear hl hlt hbl Hb
    by_cases hj : j < n
    · obtain ⟨av, cv, hsv⟩ := Hl.out.slice
      have hlen : (zl (xs.take j)).length = j := by rw [zl_len, List.length_take, ← HN.out]; omega
      rw [hlen] at hsv
      subst hsv
      have hjI : (j : Int) < (n : Int) := by omega
      have hjJ : (j : Int) + 1 ≤ 100000 := by have := HX.out; omega
      go_wp2_with fail
      refine (HGet.out _ (Ha.out.below Hbl.out) j hj).mono ?_
      rintro e w5 ⟨rfl, hb5⟩
      have Hb5 := Lib.hid hb5
      clear hb5
      have E1 := Lib.hid (zl_snoc (xs := xs) (j := j) (by have := HN.out; omega))
      obtain ⟨y, hy⟩ : ∃ y : Int, ((xs.getD j 0 : Nat) : Int) = y := ⟨_, rfl⟩
      rw [hy] at E1 ⊢
      clear hy
      have Q1 := Lib.hid ((Hl.out.kept (Kept.of_below Hb5.out Kl)).kept ((Kept.refl Kl w5).alloc (.cells #[.int .i64 y] 3)))
      have Q2 := Lib.hid (show ∀ b, Kl b → b < (w5.alloc (.cells #[.int .i64 y] 3)).heap.size from fun b hb => by have := Hlt.out b hb; have := Hb5.out.size; simp; omega)
      have Q3 := Lib.hid (show w.heap.size ≤ (w5.alloc (.cells #[.int .i64 y] 3)).heap.size from by have := Hbl.out.size; have := Hb5.out.size; simp; omega)
      have Ln := Lib.hid (show (zl (xs.take j)).length + 1 ≤ 1000000000 by rw [hlen]; have := HX.out; omega)
      go_wp2_with (at_builtin; refine wpList_append_lst Q1.out Q2.out Q3.out Ln.out rfl (.tmp 22) (.tmp 24) rfl rfl ⟨w5.heap.size, 0, none⟩ y 1 rfl (cell_new rfl rfl) ?_)
      intro v' w7 K2 hp
      have HP := Lib.hid hp
      clear hp
      go_wp2_with fail
      go_roundw
      case rel =>
        have hb := HP.out.lst
        rw [E1.out] at hb
        refine ⟨j + 1, K2, by go_num, by omega, hb, fun b hb => (HP.out.new b hb).1, ?_⟩
        have h5 : Below w.heap.size w w5 := Hbl.out.trans (Hb5.out.mono Hbl.out.size)
        exact (h5.alloc h5.size _).trans HP.out.below
      case measure => simp [intOf]; omega
    · obtain rfl : n = j := by omega
      have hl := Hl.out
      rw [List.take_of_length_le (by rw [HN.out]; exact Nat.le_refl _)] at hl
      have Hl2 := Lib.hid hl
      clear hl
      go_wp2_with fail
      go_ret
      exact ⟨_, Kl, rfl, Hl2.out, Hlt.out, Hbl.out⟩
theorem wall_row (g : Gd s L) (sn : Snd s) (r : WRow s L h xs) (ha : Ars w K p s) :
    Calls Try.prog 23 #[.pointer (some ⟨p, 0, none⟩), .int .i64 h] w fun e w' => ∃ v K', e = .returned v ∧ Lst w' w.heap.size K' v (zl xs) ∧ (∀ b, K' b → b < w'.heap.size) ∧ Below w.heap.size w w' :=
  wall_of rfl (Nat.le_trans r.len (by omega)) (fun _ ha => wlen_row g sn r ha) (fun _ ha _ hi => wget_row g sn r ha hi) ha
set_option maxHeartbeats 4000000 in
theorem wget_out {x : Nd} {i : Int} (g : Gd s L) (sn : Snd s) (N : WNode s L 8 h xs x) (hi : i < 0 ∨ (xs.length : Int) ≤ i) (ha : Ars w K p s) :
    Calls Try.prog 16 #[.pointer (some ⟨p, 0, none⟩), .int .i64 h, .int .i64 i] w fun e w' => e = .returned (.tuple #[.int .i64 0, .bool false]) ∧ Below w.heap.size w w' := by
  rcases Int.lt_or_le i 0 with h0 | h0
  · clear hi N
    go_enter Try.func16, Try.ntmps16
    go_wp2_with fail
    refine wp_scope_ghost 0 (fun _ _ _ => False) rfl (fun _ _ _ h => h.elim) fun _ => ?_
    go_wp2_with fail
    simp only [Exit.jump]
    go_ret2
    exact ⟨rfl, Below.refl _ _⟩
  · have H := Lib.hid (wlen_node g sn N ha)
    have hi2 : (xs.length : Int) ≤ i := by omega
    obtain ⟨n, hn⟩ : ∃ n, n = xs.length := ⟨_, rfl⟩
    rw [← hn] at hi2 H
    clear hi N hn
    go_enter Try.func16, Try.ntmps16
    go_wp2_with fail
    refine wp_scope_ghost 0 (fun _ _ _ => False) rfl (fun _ _ _ h => h.elim) fun _ => ?_
    go_wp2_with fail
    refine H.out.mono ?_
    rintro o w1 ⟨rfl, hb⟩
    go_wp2_with fail
    simp only [Exit.jump]
    go_ret2
    exact ⟨rfl, hb⟩
end
/-- A value that reads as numbers. -/
def IV (w : World) (v : Value) (xs : List Int) : Prop := (∃ a c, v = .slice a xs.length c) ∧ (0 < xs.length → ∃ b off c, v = .slice (some ⟨b, off, none⟩) xs.length c ∧ b < w.heap.size ∧ xs.length ≤ c ∧ ∀ j, j < xs.length → w.cell? ⟨b, off + j, none⟩ = some (.int .i64 (xs.getD j 0)))
section
variable {w w' : World} {v : Value} {xs : List Int}
theorem Ints.iv (h : Ints w v xs) : IV w v xs := by
  refine ⟨h.slice, fun h0 => ?_⟩
  rcases h with ⟨_, e⟩ | h
  · rw [e] at h0; exact absurd h0 (Nat.lt_irrefl 0)
  · exact h
theorem IV.below (h : IV w v xs) (hb : Below w.heap.size w w') : IV w' v xs := by
  refine ⟨h.1, fun h0 => ?_⟩
  obtain ⟨b, off, c, e, h1, h2, h3⟩ := h.2 h0
  exact ⟨b, off, c, e, Nat.lt_of_lt_of_le h1 hb.size, h2, fun j hj => (hb.cell (p := ⟨b, off + j, none⟩) h1).trans (h3 j hj)⟩
end
section
variable {w : World}
set_option maxHeartbeats 4000000 in
theorem same_ints_is {va vb : Value} {xs : List Int} (ha : IV w va xs) (hb : IV w vb xs) (hl : xs.length ≤ 1000000) :
    Calls Try.prog 22 #[va, vb] w fun e w' => e = .returned (.bool true) ∧ ∃ q, w' = w.drewN q := by
  obtain ⟨L, hL⟩ : ∃ L, Hid (xs.length = L) := ⟨_, rfl⟩
  have hl' : L ≤ 1000000 := hL.out ▸ hl
  have Ha := Lib.hid ha
  have Hb := Lib.hid hb
  obtain ⟨aa, ca, rfl⟩ := ha.1
  obtain ⟨ab, cb, rfl⟩ := hb.1
  rw [hL.out] at Ha Hb ⊢
  clear ha hb hl
  go_enter Try.func22, Try.ntmps22
  go_wp2_with fail
  go_loopw [5] (fun i W => ∃ t q : Nat, i = .int .i64 t ∧ t ≤ L ∧ W = w.drewN q) (fun i _ => L - (intOf i).toNat)
  case atStart => exact ⟨0, 0, rfl, by omega, rfl⟩
  case round =>
    obtain ⟨t, q, rfl, t1, rfl⟩ := hrel
    by_cases ht : t < L
    · obtain ⟨b1, o1, c1, e1, h1, h2, h3⟩ := Ha.out.2 (by rw [hL.out]; omega)
      obtain ⟨b2, o2, c2, f1, g1, g2, g3⟩ := Hb.out.2 (by rw [hL.out]; omega)
      injection e1 with e1 e2 e3
      injection f1 with f1 f2 f3
      clear e2 f2
      subst e1 e3 f1 f3
      have hca := h3 t (by rw [hL.out]; exact ht)
      have hcb := g3 t (by rw [hL.out]; exact ht)
      rw [hL.out] at h2 g2
      have i0 : (0 : Int) ≤ (t : Int) := by omega
      have i1 : (t : Int) < (L : Int) := by omega
      have cA : ∀ q', (w.drewN q').cell? ⟨b1, o1 + t, none⟩ = some (.int .i64 (xs.getD t 0)) := fun _ => hca
      have cB : ∀ q', (w.drewN q').cell? ⟨b2, o2 + t, none⟩ = some (.int .i64 (xs.getD t 0)) := fun _ => hcb
      clear h3 g3 h1 g1
      generalize xs.getD t 0 = y at *
      go_wp2_with fail
      go_quiet (fail)
      clear cA cB
      go_wp2_with fail
      go_roundw
      case rel => exact ⟨t + 1, _, by go_num, by omega, rfl⟩
      case measure => simp [intOf]; omega
    · obtain rfl : t = L := by omega
      go_wp2_with fail
      go_ret
      exact ⟨rfl, q, rfl⟩
end
end Go.Proofs.Ytdipgcbppggdhaa
