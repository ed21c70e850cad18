/- Package wave: where the k-th of a symbol stands; a symbol more, a symbol less, at the package's door. -/
import Derived.Test.YtdipgcbppggdhaaWv11
import Derived.Test.YtdipgcbppggdhaaWv9
namespace Go.Proofs.Ytdipgcbppggdhaa
set_option maxRecDepth 100000
open Go.RowKit
section
variable {K : Nat → Prop} {p : Nat} {s : Ar} {L : List Int} {w : World} {h : Int} {xs : List Nat}
theorem wsel_lt {n v k : Nat} {ys : List Nat} (hk : k < ys.countP (wsame (n + 1) v)) : k < (ys.filter fun y => wb n y == wb n v).countP (wsame n v) := by
  rw [List.countP_filter]
  have e : (fun a => wsame n v a && (wb n a == wb n v)) = wsame (n + 1) v := by
    funext y
    rw [wsame_up, Bool.and_comm]
  rw [e]
  exact hk
set_option maxRecDepth 100000 in
set_option maxHeartbeats 4000000 in
theorem wup_last {k v : Nat} {x : Nd} (g : Gd s L) (sn : Snd s) (N : WNode s L 0 h xs x) (hv : v < 257) (hk : k < xs.countP (wsame 1 v)) (ha : Ars w K p s) :
    Calls Try.prog 33 #[.pointer (some ⟨p, 0, none⟩), .int .i64 h, .int .i64 v, .int .i64 k, .int .i64 8] w fun e w' => e = .returned (.int .i64 (wsel 1 v xs k : Nat)) ∧ Below w.heap.size w w' := by
  have HRow := Lib.hid (N.row ha)
  obtain ⟨one, ho⟩ : ∃ one, one = wb 0 v := ⟨_, rfl⟩
  have hlen : k < (xs.map (wb 0)).count one := by
    have h1 := wsel_lt hk
    have h2 := List.countP_le_length (p := wsame 0 v) (l := xs.filter fun y => wb 0 y == wb 0 v)
    have h3 := cnt_one (wb 0) one xs xs.length
    rw [List.take_of_length_le (by rw [List.length_map]; omega), List.take_of_length_le (Nat.le_refl _), List.countP_eq_length_filter] at h3
    rw [h3, ho]
    omega
  have hsl : wsel 1 v xs k = bsel (xs.map (wb 0)) one k := by rw [ho]; rfl
  rw [hsl]
  have HSel := fun W (ha : Ars W K p s) => Lib.hid (fselect_row (i := k) (one := one) g sn N.bits ha hlen)
  generalize bsel (xs.map (wb 0)) one k = J at *
  have HBit := fun W => Lib.hid (show Calls Try.prog 30 #[.int .i64 (v : Int), .int .i64 8] W fun e w' => e = .returned (.bool one) ∧ W = w' from by rw [ho]; exact bit_is 0 v (by omega) hv W)
  obtain ⟨tag, k0, k1, k2, k3, A, B⟩ := x
  dsimp only at HSel
  clear g sn N hv hk ha ho hlen hsl
  go_enter Try.func33, Try.ntmps33
  go_wp2_with fail
  refine HRow.out.mono ?_
  rintro o w1 ⟨⟨b, rfl⟩, ha1, hk1⟩
  have x1 := box7 (heap_alloc_new w1 (.cells #[.int .i64 tag, .int .i64 k0, .int .i64 k1, .int .i64 k2, .int .i64 k3, .int .u64 A, .int .u64 B] 47))
  have A1 := Lib.hid (ha1.alloc (.cells #[.int .i64 tag, .int .i64 k0, .int .i64 k1, .int .i64 k2, .int .i64 k3, .int .u64 A, .int .u64 B] 47))
  have B1 := Lib.hid (hk1.alloc hk1.size (.cells #[.int .i64 tag, .int .i64 k0, .int .i64 k1, .int .i64 k2, .int .i64 k3, .int .u64 A, .int .u64 B] 47))
  have X1 := Lib.hid x1
  obtain ⟨c0, c1, c2, c3, c4, c5, c6⟩ := x1
  clear ha1 hk1 HRow
  go_wp2_with fail
  refine (HBit _).out.mono ?_
  rintro o w2 ⟨rfl, rfl⟩
  go_wp2_with fail
  refine (HSel _ A1.out).out.mono ?_
  rintro o w7 ⟨rfl, hb⟩
  go_wp2_with fail
  go_ret
  exact ⟨rfl, B1.out.trans (hb.mono B1.out.size)⟩
set_option maxRecDepth 100000 in
set_option maxHeartbeats 4000000 in
theorem wup_step {n k v J : Nat} {x : Nd} (hn : n + 1 ≤ 8) (g : Gd s L) (sn : Snd s) (N : WNode s L (n + 1) h xs x) (hv : v < 257) (hk : k < xs.countP (wsame (n + 2) v))
    (hJ : J = wsel (n + 1) v (xs.filter fun y => wb (n + 1) y == wb (n + 1) v) k)
    (HU : ∀ {w : World} {K : Nat → Prop} {p : Nat}, Ars w K p s → Calls Try.prog 33 #[.pointer (some ⟨p, 0, none⟩), .int .i64 (if wb (n + 1) v then x.k2 else x.k1), .int .i64 v, .int .i64 k, .int .i64 (8 - n : Nat)] w fun e w' => e = .returned (.int .i64 J) ∧ Below w.heap.size w w')
    (ha : Ars w K p s) :
    Calls Try.prog 33 #[.pointer (some ⟨p, 0, none⟩), .int .i64 h, .int .i64 v, .int .i64 k, .int .i64 (8 - (n + 1) : Nat)] w fun e w' => e = .returned (.int .i64 (wsel (n + 2) v xs k : Nat)) ∧ Below w.heap.size w w' := by
  have HRow := Lib.hid (N.row ha)
  obtain ⟨one, ho⟩ : ∃ one, one = wb (n + 1) v := ⟨_, rfl⟩
  have hlen : J < (xs.map (wb (n + 1))).count one := by
    have h1 := (wsel_spec (n + 1) v _ k (wsel_lt hk)).1
    rw [← hJ] at h1
    have h3 := cnt_one (wb (n + 1)) one xs xs.length
    rw [List.take_of_length_le (by rw [List.length_map]; omega), List.take_of_length_le (Nat.le_refl _), List.countP_eq_length_filter] at h3
    rw [h3, ho]
    omega
  have hsl : wsel (n + 2) v xs k = bsel (xs.map (wb (n + 1))) one J := by rw [ho, hJ]; rfl
  rw [hsl]
  have HSel := fun W (ha : Ars W K p s) => Lib.hid (fselect_row (i := J) (one := one) g sn N.bits ha hlen)
  generalize bsel (xs.map (wb (n + 1))) one J = J' at *
  obtain ⟨lv, hlv⟩ : ∃ lv : Int, lv = ((8 - (n + 1) : Nat) : Int) := ⟨_, rfl⟩
  have HBit := fun W => Lib.hid (show Calls Try.prog 30 #[.int .i64 (v : Int), .int .i64 lv] W fun e w' => e = .returned (.bool one) ∧ W = w' from by rw [ho, hlv]; exact bit_is (n + 1) v (by omega) hv W)
  rw [← ho] at HU
  have hl2 : ((8 - n : Nat) : Int) = lv + 1 := by omega
  rw [hl2] at HU
  obtain ⟨kk, hkk⟩ : ∃ kk : Int, kk = (if one then x.k2 else x.k1) := ⟨_, rfl⟩
  rw [← hkk] at HU
  have HUp := fun W (ha : Ars W K p s) => Lib.hid (HU (w := W) ha)
  rw [← hlv]
  have lv1 : 0 ≤ lv := by omega
  have lv2 : lv < 8 := by omega
  obtain ⟨tag, k0, k1, k2, k3, A, B⟩ := x
  dsimp only at HSel HUp hkk
  have HKid := fun w => Lib.hid (show Calls Try.prog 32 #[.agg #[.int .i64 tag, .int .i64 k0, .int .i64 k1, .int .i64 k2, .int .i64 k3, .int .u64 A, .int .u64 B], .bool one] w fun e w' => e = .returned (.int .i64 kk) ∧ Below w.heap.size w w' from by rw [hkk]; exact kid_is _ _ _ _ _ _ _ _ _)
  clear g sn N hv hk ha ho hlen hsl HU hl2 hlv hJ hkk
  go_enter Try.func33, Try.ntmps33
  go_wp2_with fail
  refine HRow.out.mono ?_
  rintro o w1 ⟨⟨b, rfl⟩, ha1, hk1⟩
  have x1 := box7 (heap_alloc_new w1 (.cells #[.int .i64 tag, .int .i64 k0, .int .i64 k1, .int .i64 k2, .int .i64 k3, .int .u64 A, .int .u64 B] 47))
  have A1 := Lib.hid (ha1.alloc (.cells #[.int .i64 tag, .int .i64 k0, .int .i64 k1, .int .i64 k2, .int .i64 k3, .int .u64 A, .int .u64 B] 47))
  have B1 := Lib.hid (hk1.alloc hk1.size (.cells #[.int .i64 tag, .int .i64 k0, .int .i64 k1, .int .i64 k2, .int .i64 k3, .int .u64 A, .int .u64 B] 47))
  have X1 := Lib.hid x1
  obtain ⟨c0, c1, c2, c3, c4, c5, c6⟩ := x1
  clear ha1 hk1 HRow
  go_wp2_with fail
  refine (HBit _).out.mono ?_
  rintro o w2 ⟨rfl, rfl⟩
  go_wp2_with fail
  refine (HKid _).out.mono ?_
  rintro o w4 ⟨rfl, hb⟩
  have A4 := Lib.hid (A1.out.below hb)
  have B4 := Lib.hid (B1.out.trans (hb.mono B1.out.size))
  have X4 := Lib.hid (box7_keep hb X1.out)
  clear hb c0 c1 c2 c3 c4 c5 c6 A1 B1 X1
  go_wp2_with fail
  refine (HUp _ A4.out).out.mono ?_
  rintro o w5 ⟨rfl, hb⟩
  have A5 := Lib.hid (A4.out.below hb)
  have B5 := Lib.hid (B4.out.trans (hb.mono B4.out.size))
  obtain ⟨c0, c1, c2, c3, c4, c5, c6⟩ := box7_keep hb X4.out
  clear hb A4 B4 X4 HUp
  go_wp2_with fail
  refine (HSel _ A5.out).out.mono ?_
  rintro o w7 ⟨rfl, hb⟩
  go_wp2_with fail
  go_ret
  exact ⟨rfl, B5.out.trans (hb.mono B5.out.size)⟩
theorem wup_is : ∀ (n : Nat), n ≤ 8 → ∀ {s : Ar} {L : List Int} {h : Int} {xs : List Nat} {x : Nd} {v k : Nat}, Gd s L → Snd s → (0 : Int) ∈ L → WNode s L n h xs x → xs.length ≤ 5000 → v < 257 → k < xs.countP (wsame (n + 1) v) →
    ∀ {w : World} {K : Nat → Prop} {p : Nat}, Ars w K p s → Calls Try.prog 33 #[.pointer (some ⟨p, 0, none⟩), .int .i64 h, .int .i64 v, .int .i64 k, .int .i64 (8 - n : Nat)] w fun e w' => e = .returned (.int .i64 (wsel (n + 1) v xs k : Nat)) ∧ Below w.heap.size w w'
  | 0, _, s, L, h, xs, x, v, k, g, sn, hz, N, hx, hv, hk, w, K, p, ha => wup_last g sn N hv hk ha
  | n + 1, hn, s, L, h, xs, x, v, k, g, sn, hz, N, hx, hv, hk, w, K, p, ha => by
    have hl := Nat.le_trans (List.length_filter_le (fun y => wb (n + 1) y == wb (n + 1) v) xs) hx
    have hN : ∃ x', WNode s L n (if wb (n + 1) v then x.k2 else x.k1) (xs.filter fun y => wb (n + 1) y == wb (n + 1) v) x' := by
      cases wb (n + 1) v
      · rw [(bit_eq (wb (n + 1)) xs).2]
        exact wnode g sn hz N.zero N.fz (Nat.le_trans (List.length_filter_le _ _) hx)
      · rw [(bit_eq (wb (n + 1)) xs).1]
        exact wnode g sn hz N.one N.fo (Nat.le_trans (List.length_filter_le _ _) hx)
    obtain ⟨x', N'⟩ := hN
    exact wup_step hn g sn N hv hk rfl (fun ha => wup_is n (by omega) g sn hz N' hl hv (wsel_lt hk) ha) ha
set_option maxHeartbeats 4000000 in
theorem wselect_neg {k : Int} (hk : k < 0) (a b c : Value) (w : World) : Calls Try.prog 14 #[a, b, c, .int .i64 k] w fun e w' => e = .returned (.int .i64 (-1)) ∧ w = w' := by
  go_enter Try.func14, Try.ntmps14
  go_wp2_with fail
  go_ret
  exact ⟨rfl, rfl⟩
set_option maxHeartbeats 4000000 in
theorem wselect_is {v k : Nat} {x : Nd} (g : Gd s L) (sn : Snd s) (hz : (0 : Int) ∈ L) (N : WNode s L 8 h xs x) (hx : xs.length ≤ 5000) (hv : v < 257) (ha : Ars w K p s) :
    Calls Try.prog 14 #[.pointer (some ⟨p, 0, none⟩), .int .i64 h, .int .i64 v, .int .i64 k] w fun e w' => e = .returned (.int .i64 (if k < xs.countP (wsame 9 v) then ((wsel 9 v xs k : Nat) : Int) else -1)) ∧ Below w.heap.size w w' := by
  have HL := Lib.hid (wlen_node g sn N ha)
  have hR : wrank 9 v xs xs.length = xs.countP (wsame 9 v) := by unfold wrank; rw [List.take_of_length_le (Nat.le_refl _)]
  have HR := fun W (ha : Ars W K p s) => Lib.hid (wrank_is (i := (xs.length : Int)) (c := xs.length) g sn hz N hx hv (by omega) ha)
  rw [hR] at HR
  have HU := fun W (hk : k < xs.countP (wsame 9 v)) (ha : Ars W K p s) => Lib.hid (wup_is 8 (by omega) g sn hz N hx hv hk ha)
  have Ha := Lib.hid ha
  have hcl := List.countP_le_length (p := wsame 9 v) (l := xs)
  obtain ⟨c, hc⟩ : ∃ c, c = xs.countP (wsame 9 v) := ⟨_, rfl⟩
  rw [← hc] at HR HU hcl ⊢
  obtain ⟨n, hn⟩ : ∃ n, n = xs.length := ⟨_, rfl⟩
  rw [← hn] at HL HR hcl hx
  clear hc hn hR g sn hz N hv ha
  by_cases hk : k < c
  · rw [if_pos hk]
    have HUp := fun W ha => HU W hk ha
    have hkI : (k : Int) < (c : Int) := by omega
    have hkd : decide ((c : Int) ≤ (k : Int)) = false := by simp; omega
    have hkd2 : decide (c ≤ k) = false := by simp; omega
    clear HU hk hcl hx
    go_enter Try.func14, Try.ntmps14
    go_wp2_with fail
    refine HL.out.mono ?_
    rintro o w1 ⟨rfl, hb1⟩
    have A1 := Lib.hid (Ha.out.below hb1)
    have B1 := Lib.hid hb1
    clear hb1 HL Ha
    go_wp2_with fail
    refine (HR _ A1.out).out.mono ?_
    rintro o w2 ⟨rfl, hb2⟩
    have A2 := Lib.hid (A1.out.below hb2)
    have B2 := Lib.hid (B1.out.trans (hb2.mono B1.out.size))
    clear hb2 HR A1 B1
    go_wp2_with fail
    refine (HUp _ A2.out).out.mono ?_
    rintro o w3 ⟨rfl, hb3⟩
    go_wp2_with fail
    go_ret
    exact ⟨rfl, B2.out.trans (hb3.mono B2.out.size)⟩
  · rw [if_neg hk]
    have hkd : decide ((c : Int) ≤ (k : Int)) = true := by simp; omega
    have hkd2 : decide (c ≤ k) = true := by simp; omega
    clear HU hk hcl hx
    go_enter Try.func14, Try.ntmps14
    go_wp2_with fail
    refine HL.out.mono ?_
    rintro o w1 ⟨rfl, hb1⟩
    have A1 := Lib.hid (Ha.out.below hb1)
    have B1 := Lib.hid hb1
    clear hb1 HL Ha
    go_wp2_with fail
    refine (HR _ A1.out).out.mono ?_
    rintro o w2 ⟨rfl, hb2⟩
    have A2 := Lib.hid (A1.out.below hb2)
    have B2 := Lib.hid (B1.out.trans (hb2.mono B1.out.size))
    clear hb2 HR A1 B1
    go_wp2_with fail
    go_ret
    exact ⟨rfl, B2.out⟩
end
/-- What somebody has: a handle that stands for symbols. -/
structure WRow (s : Ar) (L : List Int) (h : Int) (xs : List Nat) : Prop where
  rep : WRep s 9 h xs
  had : h = 0 ∨ h ∈ L
  len : xs.length ≤ 5000
  sym : ∀ x, x ∈ xs → x < 257
section
variable {K : Nat → Prop} {p : Nat} {s s' : Ar} {L L' : List Int} {w : World} {h : Int} {xs : List Nat}
theorem WRow.ext (r : WRow s L h xs) (E : Ext s s') (hL : ∀ x, x ∈ L → x ∈ L') : WRow s' L' h xs := ⟨r.rep.ext E, r.had.imp id (hL h), r.len, r.sym⟩
theorem WRow.zero (s : Ar) (L : List Int) : WRow s L 0 [] := ⟨WRep.nil s 9, .inl rfl, Nat.zero_le _, fun _ h => by cases h⟩
theorem WRow.firm (r : WRow s L h xs) : BFirm s (0 :: L) h := firm_zero r.had
theorem WRow.node (r : WRow s L h xs) (g : Gd s L) (sn : Snd s) : ∃ x : Nd, WNode s (0 :: L) 8 h xs x := wnode g.zero sn List.mem_cons_self r.rep r.firm r.len
theorem wins_sym {xs : List Nat} {i v : Nat} (h : ∀ x, x ∈ xs → x < 257) (hv : v < 257) : ∀ x, x ∈ wIns xs i v → x < 257 := by
  intro x hx
  unfold wIns at hx
  rcases List.mem_append.1 hx with hx | hx
  · exact h x (List.mem_of_mem_take hx)
  · rcases List.mem_cons.1 hx with rfl | hx
    · exact hv
    · exact h x (List.mem_of_mem_drop hx)
theorem wdel_sym {xs : List Nat} {i : Nat} (h : ∀ x, x ∈ xs → x < 257) : ∀ x, x ∈ wDel xs i → x < 257 := by
  intro x hx
  unfold wDel at hx
  rcases List.mem_append.1 hx with hx | hx
  · exact h x (List.mem_of_mem_take hx)
  · exact h x (List.mem_of_mem_drop hx)
theorem wlen_row (g : Gd s L) (sn : Snd s) (r : WRow s L h xs) (ha : Ars w K p s) :
    Calls Try.prog 20 #[.pointer (some ⟨p, 0, none⟩), .int .i64 h] w fun e w' => e = .returned (.int .i64 xs.length) ∧ Below w.heap.size w w' := by
  obtain ⟨x, N⟩ := r.node g sn
  exact wlen_node g.zero sn N ha
theorem wget_row {i : Nat} (g : Gd s L) (sn : Snd s) (r : WRow s L h xs) (ha : Ars w K p s) (hi : i < xs.length) :
    Calls Try.prog 16 #[.pointer (some ⟨p, 0, none⟩), .int .i64 h, .int .i64 i] w fun e w' => e = .returned (.tuple #[.int .i64 (xs.getD i 0 : Nat), .bool true]) ∧ Below w.heap.size w w' :=
  wget_is g.zero sn List.mem_cons_self r.rep r.firm r.len (r.sym _ (by rw [List.getD_eq_getElem?_getD, List.getElem?_eq_getElem hi]; exact List.getElem_mem hi)) ha hi
theorem wrank_row {i : Int} {c v : Nat} (g : Gd s L) (sn : Snd s) (r : WRow s L h xs) (hv : v < 257) (hc : (c : Int) = min (max i 0) (xs.length : Int)) (ha : Ars w K p s) :
    Calls Try.prog 13 #[.pointer (some ⟨p, 0, none⟩), .int .i64 h, .int .i64 v, .int .i64 i] w fun e w' => e = .returned (.int .i64 ((xs.take c).count v : Nat)) ∧ Below w.heap.size w w' := by
  obtain ⟨x, N⟩ := r.node g sn
  rw [← wrank_nine hv r.sym]
  exact wrank_is g.zero sn List.mem_cons_self N r.len hv hc ha
theorem wbefore_row {v : Nat} (g : Gd s L) (sn : Snd s) (r : WRow s L h xs) (hv : v ≤ 257) (ha : Ars w K p s) :
    Calls Try.prog 15 #[.pointer (some ⟨p, 0, none⟩), .int .i64 h, .int .i64 v] w fun e w' => e = .returned (.int .i64 (xs.countP fun y => decide (y < v) : Nat)) ∧ Below w.heap.size w w' := by
  obtain ⟨x, N⟩ := r.node g sn
  rcases Nat.lt_or_ge v 257 with h1 | h1
  · rw [← wbef_nine h1 r.sym]
    exact wbefore_is g.zero sn List.mem_cons_self N r.len h1 ha
  · obtain rfl : v = 257 := by omega
    have e : xs.countP (fun y => decide (y < 257)) = xs.length := List.countP_eq_length.2 fun y hy => by simpa using r.sym y hy
    rw [e]
    exact wbefore_all 257 (Int.le_refl _) g.zero sn N ha
theorem wcount_nine {v : Nat} (hv : v < 257) (hx : ∀ x, x ∈ xs → x < 257) : xs.countP (wsame 9 v) = xs.count v := by
  unfold List.count
  exact List.countP_congr fun y hy => by rw [wsame_nine hv (hx y hy)]
/-- Where the k-th of a symbol is. -/
theorem wselect_row {v k : Nat} (g : Gd s L) (sn : Snd s) (r : WRow s L h xs) (hv : v < 257) (hk : k < xs.count v) (ha : Ars w K p s) :
    ∃ j : Nat, j < xs.length ∧ xs.getD j 0 = v ∧ (xs.take j).count v = k ∧ Calls Try.prog 14 #[.pointer (some ⟨p, 0, none⟩), .int .i64 h, .int .i64 v, .int .i64 k] w fun e w' => e = .returned (.int .i64 (j : Int)) ∧ Below w.heap.size w w' := by
  obtain ⟨x, N⟩ := r.node g sn
  rw [← wcount_nine hv r.sym] at hk
  obtain ⟨h1, h2, h3⟩ := wsel_spec 9 v xs k hk
  have H := wselect_is (k := k) g.zero sn List.mem_cons_self N r.len hv ha
  rw [if_pos hk] at H
  refine ⟨_, h1, ?_, ?_, H⟩
  · rw [wsame_nine hv (r.sym _ (by rw [List.getD_eq_getElem?_getD, List.getElem?_eq_getElem h1]; exact List.getElem_mem h1))] at h2
    exact beq_iff_eq.1 h2
  · rw [← wrank_nine hv r.sym]
    exact h3
theorem wselect_out {v : Nat} {k : Int} (g : Gd s L) (sn : Snd s) (r : WRow s L h xs) (hv : v < 257) (hk : k < 0 ∨ (xs.count v : Int) ≤ k) (ha : Ars w K p s) :
    Calls Try.prog 14 #[.pointer (some ⟨p, 0, none⟩), .int .i64 h, .int .i64 v, .int .i64 k] w fun e w' => e = .returned (.int .i64 (-1)) ∧ Below w.heap.size w w' := by
  obtain ⟨x, N⟩ := r.node g sn
  rcases Int.lt_or_le k 0 with h0 | h0
  · refine (wselect_neg h0 _ _ _ w).mono ?_
    rintro e w' ⟨rfl, rfl⟩
    exact ⟨rfl, Below.refl _ _⟩
  · obtain ⟨j, rfl⟩ := Int.eq_ofNat_of_zero_le h0
    have H := wselect_is (k := j) g.zero sn List.mem_cons_self N r.len hv ha
    rw [if_neg (by rw [wcount_nine hv r.sym]; omega)] at H
    exact H
end
end Go.Proofs.Ytdipgcbppggdhaa
