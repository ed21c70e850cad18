/- Tables of documents, whatever happens: what Place, Total, At, Add and Cut answer. -/
import Derived.Test.YtcdmebjggdhhdaaM23
namespace Go.Proofs.Ytcdmebjggdhhdaa
open Go.ChangeShapes Go.WideShapes Go.ChangeAt Go.RowKit

theorem insL_end {α : Type} (l : List α) (y : α) : insL l l.length y = l ++ [y] := by simp [insL]
/-- The place of a document. -/
def Placed (l : List (Int × Int)) (id : Int) (k : Nat) (b : Bool) : Prop :=
  (b = true ∧ k < l.length ∧ (l.getD k (0, 0)).1 = id ∧ ∀ i, i < k → (l.getD i (0, 0)).1 ≠ id) ∨ (b = false ∧ k = 0 ∧ ∀ i, i < l.length → (l.getD i (0, 0)).1 ≠ id)
theorem placed_any (l : List (Int × Int)) (id : Int) : ∃ k b, Placed l id k b := by
  by_cases h : ∃ k, k < l.length ∧ (l.getD k (0, 0)).1 = id
  · obtain ⟨k, h1, h2⟩ := exists_least h
    exact ⟨k, true, .inl ⟨rfl, h1.1, h1.2, fun i hi e => by have := h2 i ⟨by omega, e⟩; omega⟩⟩
  · exact ⟨0, false, .inr ⟨rfl, rfl, fun i hi e => h ⟨i, hi, e⟩⟩⟩
theorem Placed.pos {l : List (Int × Int)} {id : Int} {k : Nat} {b : Bool} (h : Placed l id k b) (hb : b = true) : k < l.length ∧ (l.getD k (0, 0)).1 = id := by
  rcases h with ⟨_, h1, h2, _⟩ | ⟨h, _⟩
  · exact ⟨h1, h2⟩
  · rw [hb] at h; cases h
/-- How many rows the first documents have. -/
def tot : List (Int × Int) → Int
  | [] => 0
  | x :: r => x.2 + 1 + tot r
theorem tot_append (a b : List (Int × Int)) : tot (a ++ b) = tot a + tot b := by
  induction a with
  | nil => simp [tot]
  | cons x r ih => simp only [List.cons_append, tot, ih]; omega
/-- Documents that may be. -/
def Docs (l : List (Int × Int)) : Prop := l.length ≤ 12 ∧ ∀ p, p ∈ l → (0 ≤ p.1 ∧ p.1 ≤ 9223372036854775807) ∧ (0 ≤ p.2 ∧ p.2 ≤ 40)
theorem Docs.rg {l : List (Int × Int)} (h : Docs l) : Rg l := fun p hp => by
  obtain ⟨a, b⟩ := h.2 p hp
  exact ⟨a, b.1, by omega⟩
theorem tot_bd : ∀ (l : List (Int × Int)), (∀ p, p ∈ l → 0 ≤ p.2 ∧ p.2 ≤ 40) → 0 ≤ tot l ∧ tot l ≤ 41 * l.length
  | [], _ => by simp [tot]
  | x :: r, h => by
    have h1 := h x (by simp)
    have h2 := tot_bd r fun p hp => h p (List.mem_cons_of_mem _ hp)
    simp only [tot, List.length_cons]
    omega
section
variable {K : Nat → Prop} {p : Nat} {s : Ar} {B : Int} {L : List Int} {w : World}
set_option maxRecDepth 100000 in
set_option maxHeartbeats 4000000 in
theorem place_is {h id : Int} {l : List (Int × Int)} {k : Nat} {bb : Bool} (hp : Placed l id k bb) (g : Good s B L) (hB : B ≤ 1000000000000) (hx : Lh s h l) (fm : h = 0 ∨ Firm s L h) (hd : Docs l) (ha : Ars w K p s) :
    Calls Try.prog 28 #[.pointer (some ⟨p, 0, none⟩), .int .i64 h, .int .i64 id] w fun e w' => e = .returned (.tuple #[.int .i64 k, .bool bb]) ∧ Below w.heap.size w w' := by
  have HA := Lib.hid (all_is g hB hx fm (by have := hd.1; omega) hd.rg ha)
  have Hd := Lib.hid hd
  have Hp := Lib.hid hp
  clear ha g hx fm hd hp
  go_enter Try.func28, Try.ntmps28
  go_wp2_with fail
  refine HA.out.mono ?_
  clear HA
  rintro e w1 ⟨v, rfl, o1, k1⟩
  have J := Lib.hid (Items.own o1)
  have B1 := Lib.hid k1
  clear o1 k1
  obtain ⟨va, vc, rfl⟩ := J.out.val
  obtain ⟨n, hn⟩ : ∃ n, Hid (l.length = n) := ⟨_, rfl⟩
  rw [hn.out]
  have hn12 : n ≤ 12 := by rw [← hn.out]; exact Hd.out.1
  go_wp2_with fail
  go_loopw [14] (fun i W => ∃ j : Nat, i = .int .i64 j ∧ j ≤ n ∧ (bb = true → j ≤ k) ∧ Below w1.heap.size w1 W) (fun i _ => n - (intOf i).toNat)
  case atStart => exact ⟨0, rfl, by omega, fun _ => by omega, Below.refl _ _⟩
  case round =>
    obtain ⟨j, rfl, j1, hjk, hb⟩ := hrel
    have Hjk := Lib.hid hjk
    clear hjk
    by_cases hlt : j < n
    · skip
      obtain ⟨b, off, c, e, hbw, hc, hcell⟩ := J.out.cell j (by rw [hn.out]; exact hlt)
      have hce := hcell j (by rw [hn.out]; exact hlt)
      have hva : va = some ⟨b, off, none⟩ := by injection e
      subst hva
      have hvc : n ≤ vc := by injection e with _ _ e; rw [e, ← hn.out]; exact hc
      have c0 := (hb.cell (p := ⟨b, off + j * 2, none⟩) hbw).trans hce.1
      have c1 := (hb.cell (p := ⟨b, off + j * 2 + 1, none⟩) hbw).trans hce.2
      have Hb := Lib.hid hb
      clear hcell e hce hb
      obtain ⟨y, hy⟩ : ∃ y, Hid (l.getD j (0, 0) = y) := ⟨_, rfl⟩
      rw [hy.out] at c0 c1
      by_cases hid : y.1 = id
      · have hid' : (y.1 == id) = true := by simpa using hid
        have hres : bb = true ∧ k = j := by
          rcases Hp.out with ⟨hb', h1, h2, h3⟩ | ⟨_, _, h3⟩
          · refine ⟨hb', ?_⟩
            have := Hjk.out hb'
            rcases Nat.lt_or_ge j k with h | h
            · exact absurd (by rw [hy.out]; exact hid) (h3 j h)
            · omega
          · exact absurd (by rw [hy.out]; exact hid) (h3 j (by rw [hn.out]; exact hlt))
        have Hres := Lib.hid hres
        clear hres hid
        go_wp2_with fail
        go_ret2
        exact ⟨by rw [Hres.out.1, Hres.out.2]; rfl, B1.out.trans ((Hb.out.alloc Hb.out.size _).mono B1.out.size)⟩
      · have hid' : (y.1 == id) = false := by simpa using hid
        have hnext : bb = true → j + 1 ≤ k := fun hb' => by
          have h1 := Hjk.out hb'
          obtain ⟨_, h2⟩ := Hp.out.pos hb'
          rcases Nat.lt_or_ge j k with h | h
          · exact h
          · exfalso
            have : j = k := by omega
            subst this
            rw [hy.out] at h2
            exact hid h2
        have Hnext := Lib.hid hnext
        clear hnext hid
        go_wp2_with fail
        go_roundw
        case rel => exact ⟨j + 1, by go_num, by omega, Hnext.out, Hb.out.alloc Hb.out.size _⟩
        case measure => simp [intOf]; omega
    · obtain rfl : n = j := by omega
      have hres : bb = false ∧ k = 0 := by
        rcases Hp.out with ⟨hb', h1, _⟩ | ⟨h1, h2, _⟩
        · have := Hjk.out hb'; rw [hn.out] at h1; omega
        · exact ⟨h1, h2⟩
      have Hres := Lib.hid hres
      have Hb := Lib.hid hb
      clear hres hb
      go_wp2_with fail
      go_ret2
      exact ⟨by rw [Hres.out.1, Hres.out.2]; rfl, B1.out.trans (Hb.out.mono B1.out.size)⟩
set_option maxRecDepth 100000 in
set_option maxHeartbeats 4000000 in
theorem total_is {h t : Int} {l : List (Int × Int)} (ht : tot l = t) (g : Good s B L) (hB : B ≤ 1000000000000) (hx : Lh s h l) (fm : h = 0 ∨ Firm s L h) (hd : Docs l) (ha : Ars w K p s) :
    Calls Try.prog 29 #[.pointer (some ⟨p, 0, none⟩), .int .i64 h] w fun e w' => e = .returned (.int .i64 t) ∧ Below w.heap.size w w' := by
  have HA := Lib.hid (all_is g hB hx fm (by have := hd.1; omega) hd.rg ha)
  have Hd := Lib.hid hd
  have Ht := Lib.hid ht
  clear ha g hx fm hd ht
  go_enter Try.func29, Try.ntmps29
  go_wp2_with fail
  refine HA.out.mono ?_
  clear HA
  rintro e w1 ⟨v, rfl, o1, k1⟩
  have J := Lib.hid (Items.own o1)
  have B1 := Lib.hid k1
  clear o1 k1
  obtain ⟨va, vc, rfl⟩ := J.out.val
  obtain ⟨n, hn⟩ : ∃ n, Hid (l.length = n) := ⟨_, rfl⟩
  rw [hn.out]
  have hn12 : n ≤ 12 := by rw [← hn.out]; exact Hd.out.1
  go_wp2_with fail
  go_loopw [5, 12] (fun v i W => ∃ j : Nat, i = .int .i64 j ∧ j ≤ n ∧ v = .int .i64 (tot (l.take j)) ∧ Below w1.heap.size w1 W) (fun _ i _ => n - (intOf i).toNat)
  case atStart => exact ⟨0, rfl, by omega, rfl, Below.refl _ _⟩
  case round =>
    obtain ⟨j, rfl, j1, rfl, hb⟩ := hrel
    by_cases hlt : j < n
    · skip
      obtain ⟨b, off, c, e, hbw, hc, hcell⟩ := J.out.cell j (by rw [hn.out]; exact hlt)
      have hce := hcell j (by rw [hn.out]; exact hlt)
      have hva : va = some ⟨b, off, none⟩ := by injection e
      subst hva
      have hvc : n ≤ vc := by injection e with _ _ e; rw [e, ← hn.out]; exact hc
      have c0 := (hb.cell (p := ⟨b, off + j * 2, none⟩) hbw).trans hce.1
      have c1 := (hb.cell (p := ⟨b, off + j * 2 + 1, none⟩) hbw).trans hce.2
      have Hb := Lib.hid hb
      clear hcell e hce hb
      have hjl : j < l.length := by rw [hn.out]; exact hlt
      have hq := Hd.out.2 (l.getD j (0, 0)) (by rw [List.getD_eq_getElem?_getD, List.getElem?_eq_getElem hjl]; exact List.getElem_mem _)
      have hl1 := Lib.hid (tot_append (l.take j) [l.getD j (0, 0)])
      have hl2 := Lib.hid (take_nextD (d := ((0 : Int), (0 : Int))) hjl)
      obtain ⟨q1, q2⟩ := tot_bd (l.take j) fun p hp => (Hd.out.2 p (List.mem_of_mem_take hp)).2
      have q3 : (l.take j).length ≤ 12 := by rw [List.length_take]; omega
      obtain ⟨_, ⟨r1, r2⟩⟩ := hq
      generalize l.getD j (0, 0) = y at *
      generalize hT : tot (l.take j) = T at *
      have hT2 : T ≤ 492 := by omega
      clear hT q2 q3 hjl
      go_wp2_with fail
      go_roundw
      case rel => exact ⟨j + 1, by go_num, by omega, by rw [hl2.out, hl1.out]; simp [tot], Hb.out.alloc Hb.out.size _⟩
      case measure => simp [intOf]; omega
    · obtain rfl : n = j := by omega
      have Hb := Lib.hid hb
      have hT : tot (l.take n) = t := by rw [← hn.out, List.take_length]; exact Ht.out
      clear hb
      rw [hT]
      clear hT
      go_wp2_with fail
      go_ret
      exact ⟨rfl, B1.out.trans (Hb.out.mono B1.out.size)⟩
theorem tlen_is {h : Int} {n : Nat} {l : List (Int × Int)} (hn : l.length = n) (g : Good s B L) (hB : B ≤ 1000000000000) (hx : Lh s h l) (fm : h = 0 ∨ Firm s L h) (hl : n ≤ 1000) (ha : Ars w K p s) :
    Calls Try.prog 26 #[.pointer (some ⟨p, 0, none⟩), .int .i64 h] w fun r w' => r = .returned (.int .i64 n) ∧ Ars w' K p s ∧ Below w.heap.size w w' := by
  have H := Lib.hid (len_at hn g hB hx fm hl ha)
  clear ha g hx fm hn
  go_enter Try.func26, Try.ntmps26
  go_wp2_with fail
  refine H.out.mono ?_
  rintro e w1 ⟨rfl, a, b⟩
  go_wp2_with fail
  go_ret
  exact ⟨rfl, a, b⟩
set_option maxRecDepth 100000 in
set_option maxHeartbeats 4000000 in
theorem at_is {h a b : Int} {l : List (Int × Int)} {i : Nat} (hy : l[i]? = some (a, b)) (g : Good s B L) (hB : B ≤ 1000000000000) (hx : Lh s h l) (fm : h = 0 ∨ Firm s L h) (hd : Docs l) (ha : Ars w K p s) :
    Calls Try.prog 27 #[.pointer (some ⟨p, 0, none⟩), .int .i64 h, .int .i64 i] w fun e w' => e = .returned (.tuple #[.int .i64 a, .int .i64 b, .bool true]) ∧ Below w.heap.size w w' := by
  have H := Lib.hid (get_at hy g hB hx fm (by have := hd.1; omega) hd.rg ha)
  clear ha g hx fm hd hy
  go_enter Try.func27, Try.ntmps27
  go_wp2_with fail
  refine H.out.mono ?_
  clear H
  rintro e w1 ⟨rfl, k1⟩
  have B1 := Lib.hid (k1.alloc k1.size (.cells #[.int .i64 a, .int .i64 b] 30))
  clear k1
  go_wp2_with fail
  go_quiet (fail)
  go_wp2_with fail
  exact bodyPost_ret (v := .tuple #[.int .i64 a, .int .i64 b, .bool true]) (by simp [results, Try.results27, go_sem]) rfl ⟨rfl, ⟨B1.out.os, B1.out.tape, B1.out.output, B1.out.size, B1.out.block⟩⟩
set_option maxRecDepth 100000 in
set_option maxHeartbeats 4000000 in
theorem at_no {h i : Int} {l : List (Int × Int)} (hy : i < 0 ∨ l.length ≤ i) (g : Good s B L) (hB : B ≤ 1000000000000) (hx : Lh s h l) (fm : h = 0 ∨ Firm s L h) (hd : Docs l) (ha : Ars w K p s) :
    Calls Try.prog 27 #[.pointer (some ⟨p, 0, none⟩), .int .i64 h, .int .i64 i] w fun e w' => e = .returned (.tuple #[.int .i64 0, .int .i64 0, .bool false]) ∧ Below w.heap.size w w' := by
  have H := Lib.hid (get_no g hB hx fm (by have := hd.1; omega) hy ha)
  clear ha g hx fm hd hy
  go_enter Try.func27, Try.ntmps27
  go_wp2_with fail
  refine H.out.mono ?_
  clear H
  rintro e w1 ⟨rfl, k1⟩
  have B1 := Lib.hid (k1.alloc k1.size (.cells #[.int .i64 0, .int .i64 0] 30))
  clear k1
  go_wp2_with fail
  go_quiet (fail)
  go_wp2_with fail
  exact bodyPost_ret (v := .tuple #[.int .i64 0, .int .i64 0, .bool false]) (by simp [results, Try.results27, go_sem]) rfl ⟨rfl, ⟨B1.out.os, B1.out.tape, B1.out.output, B1.out.size, B1.out.block⟩⟩
set_option maxHeartbeats 4000000 in
theorem tcut_gen {h id : Int} {l : List (Int × Int)} {k : Nat} (hp : Placed l id k true) (g : Gd s L) (hL : L.length ≤ 200000) (hmb : s.made - s.busy ≤ 1000000000) (hx : Lh s h l) (fm : Firm s L h) (hd : Docs l) (ha : Ars w K p s) :
    Calls Try.prog 25 #[.pointer (some ⟨p, 0, none⟩), .int .i64 h, .int .i64 id] w (MadeG K p s L w (lc l.length) (delL l k)) := by
  have H := Lib.hid (place_is hp (g.goodb (by omega) hmb) (by decide) hx (.inr fm) hd ha)
  have hk := (hp.pos rfl).1
  have H2 := fun W ha => Lib.hid (ldelete (w := W) (K := K) (p := p) g hL hmb hx (.inr fm) (by have := hd.1; omega) hk ha)
  have Ha := Lib.hid ha
  clear ha g hx fm hd hp
  go_enter Try.func25, Try.ntmps25
  go_wp2_with fail
  refine H.out.mono ?_
  clear H
  rintro e w1 ⟨rfl, k1⟩
  have H3 := H2 w1 (Ha.out.below k1)
  clear H2
  have K1 := Lib.hid k1
  clear k1
  go_wp2_with fail
  refine H3.out.mono ?_
  rintro e w2 ⟨z, s', e', rfl, a, b, R⟩
  go_wp2_with fail
  go_ret2
  exact ⟨z, s', e', rfl, a, (Kept.of_below K1.out K).trans b, R⟩
set_option maxHeartbeats 4000000 in
theorem cut_none {h id : Int} {l : List (Int × Int)} (hp : Placed l id 0 false) (g : Good s B L) (hB : B ≤ 1000000000000) (hx : Lh s h l) (fm : h = 0 ∨ Firm s L h) (hd : Docs l) (ha : Ars w K p s) :
    Calls Try.prog 25 #[.pointer (some ⟨p, 0, none⟩), .int .i64 h, .int .i64 id] w fun e w' => e = .returned (.tuple #[.int .i64 0, .int .i64 4]) ∧ Below w.heap.size w w' := by
  have H := Lib.hid (place_is hp g (by omega) hx fm hd ha)
  clear ha g hx fm hd hp
  go_enter Try.func25, Try.ntmps25
  go_wp2_with fail
  refine H.out.mono ?_
  rintro e w1 ⟨rfl, k1⟩
  go_wp2_with fail
  go_ret2
  exact ⟨rfl, k1⟩
set_option maxRecDepth 100000 in
set_option maxHeartbeats 4000000 in
theorem tadd_gen {h id len : Int} {l : List (Int × Int)} (hp : Placed l id 0 false) (h1 : 1 ≤ id) (h2 : id ≤ 9223372036854775807) (h3 : 0 ≤ len) (h4 : len ≤ 40) (h5 : l.length < 10) (g : Gd s L) (hL : L.length ≤ 200000) (hmb : s.made - s.busy ≤ 1000000000) (hx : Lh s h l) (fm : h = 0 ∨ Firm s L h) (hd : Docs l) (ha : Ars w K p s) :
    Calls Try.prog 24 #[.pointer (some ⟨p, 0, none⟩), .int .i64 h, .int .i64 id, .int .i64 len] w (MadeG K p s L w (lc l.length) (l ++ [(id, len)])) := by
  have HI := fun W ha => Lib.hid (linsert (w := W) (K := K) (p := p) (x := id) (y := len) (i := l.length) g hL hmb hx fm (by omega) (Nat.le_refl _) ⟨by omega, h2⟩ ⟨h3, by omega⟩ ha)
  have g2 := g.goodb (by omega) hmb
  have hB : (1000000000 + 3 * 200000 : Int) ≤ 1000000000000 := by decide
  have HL := Lib.hid (tlen_is rfl g2 (by decide) hx fm (by have := hd.1; omega) ha)
  have HP := fun W ha => Lib.hid (place_is (w := W) (K := K) (p := p) hp g2 (by decide) hx fm hd ha)
  have Ha := Lib.hid ha
  skip
  obtain ⟨n, hn⟩ : ∃ n, Hid (l.length = n) := ⟨_, rfl⟩
  have hn12 : n ≤ 12 := by rw [← hn.out]; exact hd.1
  rw [hn.out] at h5 HI ⊢
  rw [hn.out] at HL
  clear ha g g2 hx fm hd hp
  go_enter Try.func24, Try.ntmps24
  go_wp2_with fail
  refine HL.out.mono ?_
  clear HL
  rintro e w1 ⟨rfl, ha1, k1⟩
  have K1 := Lib.hid k1
  have HP2 := HP w1 ha1
  clear ha1 k1 HP
  go_wp2_with fail
  refine HP2.out.mono ?_
  clear HP2
  rintro e w2 ⟨rfl, k2⟩
  have K2 := Lib.hid (K1.out.trans (k2.mono K1.out.size))
  clear k2 K1
  have H3 := HI w2 (Ha.out.below K2.out)
  clear HI
  go_wp2_with fail
  refine H3.out.mono ?_
  rintro e w3 ⟨z, s', e', rfl, a, b, R⟩
  go_wp2_with fail
  go_ret2
  exact ⟨z, s', e', rfl, a, (Kept.of_below K2.out K).trans b, by rw [← hn.out, insL_end] at R; rw [← hn.out]; exact R⟩
set_option maxRecDepth 100000 in
set_option maxHeartbeats 4000000 in
theorem add_arg {h id len : Int} {l : List (Int × Int)} {k : Nat} {bb : Bool} (hp : Placed l id k bb) (hbad : id < 1 ∨ bb = true ∨ len < 0 ∨ 40 < len) (g : Good s B L) (hB : B ≤ 1000000000000) (hx : Lh s h l) (fm : h = 0 ∨ Firm s L h) (hd : Docs l) (ha : Ars w K p s) :
    Calls Try.prog 24 #[.pointer (some ⟨p, 0, none⟩), .int .i64 h, .int .i64 id, .int .i64 len] w fun e w' => e = .returned (.tuple #[.int .i64 0, .int .i64 1]) ∧ Below w.heap.size w w' := by
  have Hb := Lib.hid hbad
  clear hbad
  have HL := Lib.hid (tlen_is rfl g (by omega) hx fm (by have := hd.1; omega) ha)
  have HP := fun W ha => Lib.hid (place_is (w := W) (K := K) (p := p) hp g (by omega) hx fm hd ha)
  have Ha := Lib.hid ha
  skip
  obtain ⟨n, hn⟩ : ∃ n, Hid (l.length = n) := ⟨_, rfl⟩
  have hn12 : n ≤ 12 := by rw [← hn.out]; exact hd.1
  skip
  rw [hn.out] at HL
  clear ha g hx fm hd hp
  go_enter Try.func24, Try.ntmps24
  go_wp2_with fail
  refine HL.out.mono ?_
  clear HL
  rintro e w1 ⟨rfl, ha1, k1⟩
  have K1 := Lib.hid k1
  have HP2 := HP w1 ha1
  clear ha1 k1 HP
  go_wp2_with fail
  refine HP2.out.mono ?_
  clear HP2
  rintro e w2 ⟨rfl, k2⟩
  have K2 := Lib.hid (K1.out.trans (k2.mono K1.out.size))
  clear k2 K1
  by_cases c1 : id < 1
  · go_wp2_with fail
    go_ret2
    exact ⟨rfl, K2.out⟩
  cases bb
  · by_cases c3 : len < 0
    · go_wp2_with fail
      go_ret2
      exact ⟨rfl, K2.out⟩
    · have c4 : 40 < len := by have := Hb.out; simp at this; omega
      go_wp2_with fail
      go_ret2
      exact ⟨rfl, K2.out⟩
  · go_wp2_with fail
    go_ret2
    exact ⟨rfl, K2.out⟩
set_option maxRecDepth 100000 in
set_option maxHeartbeats 4000000 in
theorem add_many {h id len : Int} {l : List (Int × Int)} (hp : Placed l id 0 false) (h1 : 1 ≤ id) (h3 : 0 ≤ len) (h4 : len ≤ 40) (h5 : 10 ≤ l.length) (g : Good s B L) (hB : B ≤ 1000000000000) (hx : Lh s h l) (fm : h = 0 ∨ Firm s L h) (hd : Docs l) (ha : Ars w K p s) :
    Calls Try.prog 24 #[.pointer (some ⟨p, 0, none⟩), .int .i64 h, .int .i64 id, .int .i64 len] w fun e w' => e = .returned (.tuple #[.int .i64 0, .int .i64 8]) ∧ Below w.heap.size w w' := by
  have HL := Lib.hid (tlen_is rfl g (by omega) hx fm (by have := hd.1; omega) ha)
  have HP := fun W ha => Lib.hid (place_is (w := W) (K := K) (p := p) hp g (by omega) hx fm hd ha)
  have Ha := Lib.hid ha
  skip
  obtain ⟨n, hn⟩ : ∃ n, Hid (l.length = n) := ⟨_, rfl⟩
  have hn12 : n ≤ 12 := by rw [← hn.out]; exact hd.1
  rw [hn.out] at h5
  rw [hn.out] at HL
  clear ha g hx fm hd hp
  go_enter Try.func24, Try.ntmps24
  go_wp2_with fail
  refine HL.out.mono ?_
  clear HL
  rintro e w1 ⟨rfl, ha1, k1⟩
  have K1 := Lib.hid k1
  have HP2 := HP w1 ha1
  clear ha1 k1 HP
  go_wp2_with fail
  refine HP2.out.mono ?_
  clear HP2
  rintro e w2 ⟨rfl, k2⟩
  have K2 := Lib.hid (K1.out.trans (k2.mono K1.out.size))
  clear k2 K1
  go_wp2_with fail
  go_ret2
  exact ⟨rfl, K2.out⟩
end
theorem placed_nil (id : Int) : Placed [] id 0 false := .inr ⟨rfl, rfl, fun _ hi => absurd hi (Nat.not_lt_zero _)⟩
theorem docs_nil : Docs [] := ⟨by decide, fun p hp => by cases hp⟩
theorem docs_snoc {l : List (Int × Int)} {id len : Int} (h : Docs l) (hl : l.length < 12) (h1 : 0 ≤ id ∧ id ≤ 9223372036854775807) (h2 : 0 ≤ len ∧ len ≤ 40) : Docs (l ++ [(id, len)]) :=
  ⟨by simp; omega, fun p hp => by
    rcases List.mem_append.1 hp with hp | hp
    · exact h.2 p hp
    · simp at hp; subst hp; exact ⟨h1, h2⟩⟩
set_option maxRecDepth 100000 in
set_option maxHeartbeats 4000000 in
theorem alive11 (w : World) : Calls Try.prog 23 #[] w fun e w' => e = .returned (.bool true) ∧ Below w.heap.size w w' := by
  obtain ⟨K, hK⟩ : ∃ K : Nat → Prop, K = fun b => b < w.heap.size := ⟨_, rfl⟩
  have HK := Lib.hid hK
  clear hK
  go_enter Try.func23, Try.ntmps23
  go_wp2_with fail
  refine (new_yes 20 w (by decide) (by decide)).mono ?_
  rintro e w1 ⟨p, rfl, hb, ha⟩
  replace ha := ha K (fun _ h => by rw [HK.out] at h; exact h)
  have Hk := Lib.hid (Kept.of_below hb K)
  clear hb
  have H := Lib.hid (tadd_gen (len := 3) (placed_nil 7) (by decide) (by decide) (by decide) (by decide) (by decide) (gd_new (n := 20) (by decide) (by decide)) (by decide) (by decide) (Lh.nil _) (.inl rfl) docs_nil ha)
  clear ha
  go_wp2_with fail
  refine H.out.mono ?_
  clear H
  rintro e w2 ⟨h, s1, e1, rfl, ha, hk, R⟩
  have lc0 : lc 0 = 4 := by
    have e0 : bl 0 = 0 := by
      have := (bl_is 0).2 0
      refine Classical.byContradiction fun c => ?_
      have := this (by omega)
      omega
    show (if 0 ≤ 100 then 4 + 4 * bl 0 else 130) = 4
    rw [if_pos (by omega), e0]
  obtain ⟨k1, a1, a2, a3⟩ := R.went.made
  have a1' : k1 ≤ 4 := by rw [← lc0]; exact a1
  have b0 : (Ar.new 20).busy = 0 := rfl
  have m0 : (Ar.new 20).made = 0 := rfl
  obtain rfl := R.sure (by show (0 : Int) + (lc 0 : Nat) < 20; rw [lc0]; decide)
  have hl := R.lh rfl
  have g := R.gd.goodb (by simp) (by omega)
  clear R a1 a2 a3 a1' b0 m0 lc0
  replace Hk := Lib.hid (Hk.out.trans hk)
  have hd : Docs ([] ++ [((7 : Int), (3 : Int))]) := docs_snoc docs_nil (by decide) (by decide) (by decide)
  have H1 := Lib.hid (at_is (i := 0) (a := 7) (b := 3) rfl g (by decide) hl (.inr (.inl (by simp))) hd ha)
  have H2 := fun W hb => Lib.hid (total_is (w := W) (t := 4) rfl g (by decide) hl (.inr (.inl (by simp))) hd (ha.below hb))
  have H3 := fun W hb => Lib.hid (tlen_is (w := W) (h := 0) (n := 0) (l := []) rfl g (by decide) (Lh.nil _) (.inl rfl) (by decide) (ha.below hb))
  clear ha hk g hl hd
  go_wp2_with fail
  refine H1.out.mono ?_
  clear H1
  rintro e w3 ⟨rfl, k3⟩
  have B3 := Lib.hid k3
  clear k3
  go_wp2_with fail
  refine (H2 _ B3.out).out.mono ?_
  rintro e w4 ⟨rfl, k4⟩
  have B4 := Lib.hid (B3.out.trans (k4.mono B3.out.size))
  clear k4
  go_wp2_with fail
  refine (H3 _ B4.out).out.mono ?_
  rintro e w5 ⟨rfl, _, k5⟩
  go_wp2_with fail
  go_ret
  exact ⟨rfl, (Hk.out.below fun b hb => by rw [HK.out]; exact hb).trans ((B4.out.trans (k5.mono B4.out.size)).mono Hk.out.size)⟩
end Go.Proofs.Ytcdmebjggdhhdaa
