/- Tables of documents, whatever happens: what Place, Total, At, Add and Cut answer. -/
import Derived.Test.YtcdmebjggdhhdaaGpM
import Derived.Test.YtcdmebjggdhhdaaMem
import Derived.Deep.RegionHeld3
import Derived.Test.YtcdmebjggdhhdaaGpR
import Derived.Laws.OwnMore
import Derived.Maps.AppendAt
import Derived.Test.YtcdmebjggdhhdaaM9
namespace Go.Proofs.Ytcdmebjggdhhdaa
open Go.ChangeShapes Go.WideShapes Go.ChangeAt Go.RowKit

theorem insL_end {α : Type} (l : List α) (y : α) : insL l l.length y = l ++ [y] := by simp [insL]
/-- The place of a document. -/
def Placed (l : List (Int × Int)) (id : Int) (k : Nat) (b : Bool) : Prop :=
  (b = true ∧ k < l.length ∧ (l.getD k (0, 0)).1 = id ∧ ∀ i, i < k → (l.getD i (0, 0)).1 ≠ id) ∨ (b = false ∧ k = 0 ∧ ∀ i, i < l.length → (l.getD i (0, 0)).1 ≠ id)
theorem placed_any (l : List (Int × Int)) (id : Int) : ∃ k b, Placed l id k b := by
  by_cases h : ∃ k, k < l.length ∧ (l.getD k (0, 0)).1 = id
  · obtain ⟨k, h1, h2⟩ := exists_least h
    exact ⟨k, true, .inl ⟨rfl, h1.1, h1.2, fun i hi e => by have := h2 i ⟨by omega, e⟩; omega⟩⟩
  · exact ⟨0, false, .inr ⟨rfl, rfl, fun i hi e => h ⟨i, hi, e⟩⟩⟩
theorem Placed.pos {l : List (Int × Int)} {id : Int} {k : Nat} {b : Bool} (h : Placed l id k b) (hb : b = true) : k < l.length ∧ (l.getD k (0, 0)).1 = id := by
  rcases h with ⟨_, h1, h2, _⟩ | ⟨h, _⟩
  · exact ⟨h1, h2⟩
  · rw [hb] at h; cases h
/-- How many rows the first documents have. -/
def tot : List (Int × Int) → Int
  | [] => 0
  | x :: r => x.2 + 1 + tot r
theorem tot_append (a b : List (Int × Int)) : tot (a ++ b) = tot a + tot b := by
  induction a with
  | nil => simp [tot]
  | cons x r ih => simp only [List.cons_append, tot, ih]; omega
/-- Documents that may be. -/
def Docs (l : List (Int × Int)) : Prop := l.length ≤ 12 ∧ ∀ p, p ∈ l → (0 ≤ p.1 ∧ p.1 ≤ 9223372036854775807) ∧ (0 ≤ p.2 ∧ p.2 ≤ 40)
theorem Docs.rg {l : List (Int × Int)} (h : Docs l) : Rg l := fun p hp => by
  obtain ⟨a, b⟩ := h.2 p hp
  exact ⟨a, b.1, by omega⟩
theorem tot_bd : ∀ (l : List (Int × Int)), (∀ p, p ∈ l → 0 ≤ p.2 ∧ p.2 ≤ 40) → 0 ≤ tot l ∧ tot l ≤ 41 * l.length
  | [], _ => by simp [tot]
  | x :: r, h => by
    have h1 := h x (by simp)
    have h2 := tot_bd r fun p hp => h p (List.mem_cons_of_mem _ hp)
    simp only [tot, List.length_cons]
    omega
section
variable {K : Nat → Prop} {p : Nat} {s : Ar} {B : Int} {L : List Int} {w : World}
set_option maxRecDepth 100000 in
set_option maxHeartbeats 4000000 in
theorem place_is {h id : Int} {l : List (Int × Int)} {k : Nat} {bb : Bool} (hp : Placed l id k bb) (g : Good s B L) (hB : B ≤ 1000000000000) (hx : Lh s h l) (fm : h = 0 ∨ Firm s L h) (hd : Docs l) (ha : Ars w K p s) :
    Calls Try.prog 28 #[.pointer (some ⟨p, 0, none⟩), .int .i64 h, .int .i64 id] w fun e w' => e = .returned (.tuple #[.int .i64 k, .bool bb]) ∧ Below w.heap.size w w' := by
  have HA := Lib.hid (all_is g hB hx fm (by have := hd.1; omega) hd.rg ha)
  have Hd := Lib.hid hd
  have Hp := Lib.hid hp
  clear ha g hx fm hd hp
  go_enter Try.func28, Try.ntmps28
  go_wp2_with fail
  refine HA.out.mono ?_
  clear HA
  rintro e w1 ⟨v, rfl, o1, k1⟩
  have J := Lib.hid (Items.own o1)
  have B1 := Lib.hid k1
  clear o1 k1
  obtain ⟨va, vc, rfl⟩ := J.out.val
  obtain ⟨n, hn⟩ : ∃ n, Hid (l.length = n) := ⟨_, rfl⟩
  rw [hn.out]
  have hn12 : n ≤ 12 := by rw [← hn.out]; exact Hd.out.1
  go_wp2_with fail
  go_loopw [14] (fun i W => ∃ j : Nat, i = .int .i64 j ∧ j ≤ n ∧ (bb = true → j ≤ k) ∧ Below w1.heap.size w1 W) (fun i _ => n - (intOf i).toNat)
  case atStart => exact ⟨0, rfl, by omega, fun _ => by omega, Below.refl _ _⟩
  case round =>
    obtain ⟨j, rfl, j1, hjk, hb⟩ := hrel
    have Hjk := Lib.hid hjk
    clear hjk
    by_cases hlt : j < n
    · skip
      obtain ⟨b, off, c, e, hbw, hc, hcell⟩ := J.out.cell j (by rw [hn.out]; exact hlt)
      have hce := hcell j (by rw [hn.out]; exact hlt)
      have hva : va = some ⟨b, off, none⟩ := by injection e
      subst hva
      have hvc : n ≤ vc := by injection e with _ _ e; rw [e, ← hn.out]; exact hc
      have c0 := (hb.cell (p := ⟨b, off + j * 2, none⟩) hbw).trans hce.1
      have c1 := (hb.cell (p := ⟨b, off + j * 2 + 1, none⟩) hbw).trans hce.2
      have Hb := Lib.hid hb
      clear hcell e hce hb
      obtain ⟨y, hy⟩ : ∃ y, Hid (l.getD j (0, 0) = y) := ⟨_, rfl⟩
      rw [hy.out] at c0 c1
      by_cases hid : y.1 = id
      · have hid' : (y.1 == id) = true := by simpa using hid
        have hres : bb = true ∧ k = j := by
          rcases Hp.out with ⟨hb', h1, h2, h3⟩ | ⟨_, _, h3⟩
          · refine ⟨hb', ?_⟩
            have := Hjk.out hb'
            rcases Nat.lt_or_ge j k with h | h
            · exact absurd (by rw [hy.out]; exact hid) (h3 j h)
            · omega
          · exact absurd (by rw [hy.out]; exact hid) (h3 j (by rw [hn.out]; exact hlt))
        have Hres := Lib.hid hres
        clear hres hid
        go_wp2_with fail
        go_ret2
        exact ⟨by rw [Hres.out.1, Hres.out.2]; rfl, B1.out.trans ((Hb.out.alloc Hb.out.size _).mono B1.out.size)⟩
      · have hid' : (y.1 == id) = false := by simpa using hid
        have hnext : bb = true → j + 1 ≤ k := fun hb' => by
          have h1 := Hjk.out hb'
          obtain ⟨_, h2⟩ := Hp.out.pos hb'
          rcases Nat.lt_or_ge j k with h | h
          · exact h
          · exfalso
            have : j = k := by omega
            subst this
            rw [hy.out] at h2
            exact hid h2
        have Hnext := Lib.hid hnext
        clear hnext hid
        go_wp2_with fail
        go_roundw
        case rel => exact ⟨j + 1, by go_num, by omega, Hnext.out, Hb.out.alloc Hb.out.size _⟩
        case measure => simp [intOf]; omega
    · obtain rfl : n = j := by omega
      have hres : bb = false ∧ k = 0 := by
        rcases Hp.out with ⟨hb', h1, _⟩ | ⟨h1, h2, _⟩
        · have := Hjk.out hb'; rw [hn.out] at h1; omega
        · exact ⟨h1, h2⟩
      have Hres := Lib.hid hres
      have Hb := Lib.hid hb
      clear hres hb
      go_wp2_with fail
      go_ret2
      exact ⟨by rw [Hres.out.1, Hres.out.2]; rfl, B1.out.trans (Hb.out.mono B1.out.size)⟩
set_option maxRecDepth 100000 in
set_option maxHeartbeats 4000000 in
theorem total_is {h t : Int} {l : List (Int × Int)} (ht : tot l = t) (g : Good s B L) (hB : B ≤ 1000000000000) (hx : Lh s h l) (fm : h = 0 ∨ Firm s L h) (hd : Docs l) (ha : Ars w K p s) :
    Calls Try.prog 29 #[.pointer (some ⟨p, 0, none⟩), .int .i64 h] w fun e w' => e = .returned (.int .i64 t) ∧ Below w.heap.size w w' := by
  have HA := Lib.hid (all_is g hB hx fm (by have := hd.1; omega) hd.rg ha)
  have Hd := Lib.hid hd
  have Ht := Lib.hid ht
  clear ha g hx fm hd ht
  go_enter Try.func29, Try.ntmps29
  go_wp2_with fail
  refine HA.out.mono ?_
  clear HA
  rintro e w1 ⟨v, rfl, o1, k1⟩
  have J := Lib.hid (Items.own o1)
  have B1 := Lib.hid k1
  clear o1 k1
  obtain ⟨va, vc, rfl⟩ := J.out.val
  obtain ⟨n, hn⟩ : ∃ n, Hid (l.length = n) := ⟨_, rfl⟩
  rw [hn.out]
  have hn12 : n ≤ 12 := by rw [← hn.out]; exact Hd.out.1
  go_wp2_with fail
  go_loopw [5, 12] (fun v i W => ∃ j : Nat, i = .int .i64 j ∧ j ≤ n ∧ v = .int .i64 (tot (l.take j)) ∧ Below w1.heap.size w1 W) (fun _ i _ => n - (intOf i).toNat)
  case atStart => exact ⟨0, rfl, by omega, rfl, Below.refl _ _⟩
  case round =>
    obtain ⟨j, rfl, j1, rfl, hb⟩ := hrel
    by_cases hlt : j < n
    · skip
      obtain ⟨b, off, c, e, hbw, hc, hcell⟩ := J.out.cell j (by rw [hn.out]; exact hlt)
      have hce := hcell j (by rw [hn.out]; exact hlt)
      have hva : va = some ⟨b, off, none⟩ := by injection e
      subst hva
      have hvc : n ≤ vc := by injection e with _ _ e; rw [e, ← hn.out]; exact hc
      have c0 := (hb.cell (p := ⟨b, off + j * 2, none⟩) hbw).trans hce.1
      have c1 := (hb.cell (p := ⟨b, off + j * 2 + 1, none⟩) hbw).trans hce.2
      have Hb := Lib.hid hb
      clear hcell e hce hb
      have hjl : j < l.length := by rw [hn.out]; exact hlt
      have hq := Hd.out.2 (l.getD j (0, 0)) (by rw [List.getD_eq_getElem?_getD, List.getElem?_eq_getElem hjl]; exact List.getElem_mem _)
      have hl1 := Lib.hid (tot_append (l.take j) [l.getD j (0, 0)])
      have hl2 := Lib.hid (take_nextD (d := ((0 : Int), (0 : Int))) hjl)
      obtain ⟨q1, q2⟩ := tot_bd (l.take j) fun p hp => (Hd.out.2 p (List.mem_of_mem_take hp)).2
      have q3 : (l.take j).length ≤ 12 := by rw [List.length_take]; omega
      obtain ⟨_, ⟨r1, r2⟩⟩ := hq
      generalize l.getD j (0, 0) = y at *
      generalize hT : tot (l.take j) = T at *
      have hT2 : T ≤ 492 := by omega
      clear hT q2 q3 hjl
      go_wp2_with fail
      go_roundw
      case rel => exact ⟨j + 1, by go_num, by omega, by rw [hl2.out, hl1.out]; simp [tot], Hb.out.alloc Hb.out.size _⟩
      case measure => simp [intOf]; omega
    · obtain rfl : n = j := by omega
      have Hb := Lib.hid hb
      have hT : tot (l.take n) = t := by rw [← hn.out, List.take_length]; exact Ht.out
      clear hb
      rw [hT]
      clear hT
      go_wp2_with fail
      go_ret
      exact ⟨rfl, B1.out.trans (Hb.out.mono B1.out.size)⟩
theorem tlen_is {h : Int} {n : Nat} {l : List (Int × Int)} (hn : l.length = n) (g : Good s B L) (hB : B ≤ 1000000000000) (hx : Lh s h l) (fm : h = 0 ∨ Firm s L h) (hl : n ≤ 1000) (ha : Ars w K p s) :
    Calls Try.prog 26 #[.pointer (some ⟨p, 0, none⟩), .int .i64 h] w fun r w' => r = .returned (.int .i64 n) ∧ Ars w' K p s ∧ Below w.heap.size w w' := by
  have H := Lib.hid (len_at hn g hB hx fm hl ha)
  clear ha g hx fm hn
  go_enter Try.func26, Try.ntmps26
  go_wp2_with fail
  refine H.out.mono ?_
  rintro e w1 ⟨rfl, a, b⟩
  go_wp2_with fail
  go_ret
  exact ⟨rfl, a, b⟩
set_option maxRecDepth 100000 in
set_option maxHeartbeats 4000000 in
theorem at_is {h a b : Int} {l : List (Int × Int)} {i : Nat} (hy : l[i]? = some (a, b)) (g : Good s B L) (hB : B ≤ 1000000000000) (hx : Lh s h l) (fm : h = 0 ∨ Firm s L h) (hd : Docs l) (ha : Ars w K p s) :
    Calls Try.prog 27 #[.pointer (some ⟨p, 0, none⟩), .int .i64 h, .int .i64 i] w fun e w' => e = .returned (.tuple #[.int .i64 a, .int .i64 b, .bool true]) ∧ Below w.heap.size w w' := by
  have H := Lib.hid (get_at hy g hB hx fm (by have := hd.1; omega) hd.rg ha)
  clear ha g hx fm hd hy
  go_enter Try.func27, Try.ntmps27
  go_wp2_with fail
  refine H.out.mono ?_
  clear H
  rintro e w1 ⟨rfl, k1⟩
  have B1 := Lib.hid (k1.alloc k1.size (.cells #[.int .i64 a, .int .i64 b] 30))
  clear k1
  go_wp2_with fail
  go_quiet (fail)
  go_wp2_with fail
  exact bodyPost_ret (v := .tuple #[.int .i64 a, .int .i64 b, .bool true]) (by simp [results, Try.results27, go_sem]) rfl ⟨rfl, ⟨B1.out.os, B1.out.tape, B1.out.output, B1.out.size, B1.out.block⟩⟩
set_option maxRecDepth 100000 in
set_option maxHeartbeats 4000000 in
theorem at_no {h i : Int} {l : List (Int × Int)} (hy : i < 0 ∨ l.length ≤ i) (g : Good s B L) (hB : B ≤ 1000000000000) (hx : Lh s h l) (fm : h = 0 ∨ Firm s L h) (hd : Docs l) (ha : Ars w K p s) :
    Calls Try.prog 27 #[.pointer (some ⟨p, 0, none⟩), .int .i64 h, .int .i64 i] w fun e w' => e = .returned (.tuple #[.int .i64 0, .int .i64 0, .bool false]) ∧ Below w.heap.size w w' := by
  have H := Lib.hid (get_no g hB hx fm (by have := hd.1; omega) hy ha)
  clear ha g hx fm hd hy
  go_enter Try.func27, Try.ntmps27
  go_wp2_with fail
  refine H.out.mono ?_
  clear H
  rintro e w1 ⟨rfl, k1⟩
  have B1 := Lib.hid (k1.alloc k1.size (.cells #[.int .i64 0, .int .i64 0] 30))
  clear k1
  go_wp2_with fail
  go_quiet (fail)
  go_wp2_with fail
  exact bodyPost_ret (v := .tuple #[.int .i64 0, .int .i64 0, .bool false]) (by simp [results, Try.results27, go_sem]) rfl ⟨rfl, ⟨B1.out.os, B1.out.tape, B1.out.output, B1.out.size, B1.out.block⟩⟩
set_option maxHeartbeats 4000000 in
theorem tcut_gen {h id : Int} {l : List (Int × Int)} {k : Nat} (hp : Placed l id k true) (g : Gd s L) (hL : L.length ≤ 200000) (hmb : s.made - s.busy ≤ 1000000000) (hx : Lh s h l) (fm : Firm s L h) (hd : Docs l) (ha : Ars w K p s) :
    Calls Try.prog 25 #[.pointer (some ⟨p, 0, none⟩), .int .i64 h, .int .i64 id] w (MadeG K p s L w (lc l.length) (delL l k)) := by
  have H := Lib.hid (place_is hp (g.goodb (by omega) hmb) (by decide) hx (.inr fm) hd ha)
  have hk := (hp.pos rfl).1
  have H2 := fun W ha => Lib.hid (ldelete (w := W) (K := K) (p := p) g hL hmb hx (.inr fm) (by have := hd.1; omega) hk ha)
  have Ha := Lib.hid ha
  clear ha g hx fm hd hp
  go_enter Try.func25, Try.ntmps25
  go_wp2_with fail
  refine H.out.mono ?_
  clear H
  rintro e w1 ⟨rfl, k1⟩
  have H3 := H2 w1 (Ha.out.below k1)
  clear H2
  have K1 := Lib.hid k1
  clear k1
  go_wp2_with fail
  refine H3.out.mono ?_
  rintro e w2 ⟨z, s', e', rfl, a, b, R⟩
  go_wp2_with fail
  go_ret2
  exact ⟨z, s', e', rfl, a, (Kept.of_below K1.out K).trans b, R⟩
set_option maxHeartbeats 4000000 in
theorem cut_none {h id : Int} {l : List (Int × Int)} (hp : Placed l id 0 false) (g : Good s B L) (hB : B ≤ 1000000000000) (hx : Lh s h l) (fm : h = 0 ∨ Firm s L h) (hd : Docs l) (ha : Ars w K p s) :
    Calls Try.prog 25 #[.pointer (some ⟨p, 0, none⟩), .int .i64 h, .int .i64 id] w fun e w' => e = .returned (.tuple #[.int .i64 0, .int .i64 4]) ∧ Below w.heap.size w w' := by
  have H := Lib.hid (place_is hp g (by omega) hx fm hd ha)
  clear ha g hx fm hd hp
  go_enter Try.func25, Try.ntmps25
  go_wp2_with fail
  refine H.out.mono ?_
  rintro e w1 ⟨rfl, k1⟩
  go_wp2_with fail
  go_ret2
  exact ⟨rfl, k1⟩
set_option maxRecDepth 100000 in
set_option maxHeartbeats 4000000 in
theorem tadd_gen {h id len : Int} {l : List (Int × Int)} (hp : Placed l id 0 false) (h1 : 1 ≤ id) (h2 : id ≤ 9223372036854775807) (h3 : 0 ≤ len) (h4 : len ≤ 40) (h5 : l.length < 10) (g : Gd s L) (hL : L.length ≤ 200000) (hmb : s.made - s.busy ≤ 1000000000) (hx : Lh s h l) (fm : h = 0 ∨ Firm s L h) (hd : Docs l) (ha : Ars w K p s) :
    Calls Try.prog 24 #[.pointer (some ⟨p, 0, none⟩), .int .i64 h, .int .i64 id, .int .i64 len] w (MadeG K p s L w (lc l.length) (l ++ [(id, len)])) := by
  have HI := fun W ha => Lib.hid (linsert (w := W) (K := K) (p := p) (x := id) (y := len) (i := l.length) g hL hmb hx fm (by omega) (Nat.le_refl _) ⟨by omega, h2⟩ ⟨h3, by omega⟩ ha)
  have g2 := g.goodb (by omega) hmb
  have hB : (1000000000 + 3 * 200000 : Int) ≤ 1000000000000 := by decide
  have HL := Lib.hid (tlen_is rfl g2 (by decide) hx fm (by have := hd.1; omega) ha)
  have HP := fun W ha => Lib.hid (place_is (w := W) (K := K) (p := p) hp g2 (by decide) hx fm hd ha)
  have Ha := Lib.hid ha
  skip
  obtain ⟨n, hn⟩ : ∃ n, Hid (l.length = n) := ⟨_, rfl⟩
  have hn12 : n ≤ 12 := by rw [← hn.out]; exact hd.1
  rw [hn.out] at h5 HI ⊢
  rw [hn.out] at HL
  clear ha g g2 hx fm hd hp
  go_enter Try.func24, Try.ntmps24
  go_wp2_with fail
  refine HL.out.mono ?_
  clear HL
  rintro e w1 ⟨rfl, ha1, k1⟩
  have K1 := Lib.hid k1
  have HP2 := HP w1 ha1
  clear ha1 k1 HP
  go_wp2_with fail
  refine HP2.out.mono ?_
  clear HP2
  rintro e w2 ⟨rfl, k2⟩
  have K2 := Lib.hid (K1.out.trans (k2.mono K1.out.size))
  clear k2 K1
  have H3 := HI w2 (Ha.out.below K2.out)
  clear HI
  go_wp2_with fail
  refine H3.out.mono ?_
  rintro e w3 ⟨z, s', e', rfl, a, b, R⟩
  go_wp2_with fail
  go_ret2
  exact ⟨z, s', e', rfl, a, (Kept.of_below K2.out K).trans b, by rw [← hn.out, insL_end] at R; rw [← hn.out]; exact R⟩
set_option maxRecDepth 100000 in
set_option maxHeartbeats 4000000 in
theorem add_arg {h id len : Int} {l : List (Int × Int)} {k : Nat} {bb : Bool} (hp : Placed l id k bb) (hbad : id < 1 ∨ bb = true ∨ len < 0 ∨ 40 < len) (g : Good s B L) (hB : B ≤ 1000000000000) (hx : Lh s h l) (fm : h = 0 ∨ Firm s L h) (hd : Docs l) (ha : Ars w K p s) :
    Calls Try.prog 24 #[.pointer (some ⟨p, 0, none⟩), .int .i64 h, .int .i64 id, .int .i64 len] w fun e w' => e = .returned (.tuple #[.int .i64 0, .int .i64 1]) ∧ Below w.heap.size w w' := by
  have Hb := Lib.hid hbad
  clear hbad
  have HL := Lib.hid (tlen_is rfl g (by omega) hx fm (by have := hd.1; omega) ha)
  have HP := fun W ha => Lib.hid (place_is (w := W) (K := K) (p := p) hp g (by omega) hx fm hd ha)
  have Ha := Lib.hid ha
  skip
  obtain ⟨n, hn⟩ : ∃ n, Hid (l.length = n) := ⟨_, rfl⟩
  have hn12 : n ≤ 12 := by rw [← hn.out]; exact hd.1
  skip
  rw [hn.out] at HL
  clear ha g hx fm hd hp
  go_enter Try.func24, Try.ntmps24
  go_wp2_with fail
  refine HL.out.mono ?_
  clear HL
  rintro e w1 ⟨rfl, ha1, k1⟩
  have K1 := Lib.hid k1
  have HP2 := HP w1 ha1
  clear ha1 k1 HP
  go_wp2_with fail
  refine HP2.out.mono ?_
  clear HP2
  rintro e w2 ⟨rfl, k2⟩
  have K2 := Lib.hid (K1.out.trans (k2.mono K1.out.size))
  clear k2 K1
  by_cases c1 : id < 1
  · go_wp2_with fail
    go_ret2
    exact ⟨rfl, K2.out⟩
  cases bb
  · by_cases c3 : len < 0
    · go_wp2_with fail
      go_ret2
      exact ⟨rfl, K2.out⟩
    · have c4 : 40 < len := by have := Hb.out; simp at this; omega
      go_wp2_with fail
      go_ret2
      exact ⟨rfl, K2.out⟩
  · go_wp2_with fail
    go_ret2
    exact ⟨rfl, K2.out⟩
set_option maxRecDepth 100000 in
set_option maxHeartbeats 4000000 in
theorem add_many {h id len : Int} {l : List (Int × Int)} (hp : Placed l id 0 false) (h1 : 1 ≤ id) (h3 : 0 ≤ len) (h4 : len ≤ 40) (h5 : 10 ≤ l.length) (g : Good s B L) (hB : B ≤ 1000000000000) (hx : Lh s h l) (fm : h = 0 ∨ Firm s L h) (hd : Docs l) (ha : Ars w K p s) :
    Calls Try.prog 24 #[.pointer (some ⟨p, 0, none⟩), .int .i64 h, .int .i64 id, .int .i64 len] w fun e w' => e = .returned (.tuple #[.int .i64 0, .int .i64 8]) ∧ Below w.heap.size w w' := by
  have HL := Lib.hid (tlen_is rfl g (by omega) hx fm (by have := hd.1; omega) ha)
  have HP := fun W ha => Lib.hid (place_is (w := W) (K := K) (p := p) hp g (by omega) hx fm hd ha)
  have Ha := Lib.hid ha
  skip
  obtain ⟨n, hn⟩ : ∃ n, Hid (l.length = n) := ⟨_, rfl⟩
  have hn12 : n ≤ 12 := by rw [← hn.out]; exact hd.1
  rw [hn.out] at h5
  rw [hn.out] at HL
  clear ha g hx fm hd hp
  go_enter Try.func24, Try.ntmps24
  go_wp2_with fail
  refine HL.out.mono ?_
  clear HL
  rintro e w1 ⟨rfl, ha1, k1⟩
  have K1 := Lib.hid k1
  have HP2 := HP w1 ha1
  clear ha1 k1 HP
  go_wp2_with fail
  refine HP2.out.mono ?_
  clear HP2
  rintro e w2 ⟨rfl, k2⟩
  have K2 := Lib.hid (K1.out.trans (k2.mono K1.out.size))
  clear k2 K1
  go_wp2_with fail
  go_ret2
  exact ⟨rfl, K2.out⟩
end
theorem placed_nil (id : Int) : Placed [] id 0 false := .inr ⟨rfl, rfl, fun _ hi => absurd hi (Nat.not_lt_zero _)⟩
theorem docs_nil : Docs [] := ⟨by decide, fun p hp => by cases hp⟩
theorem docs_snoc {l : List (Int × Int)} {id len : Int} (h : Docs l) (hl : l.length < 12) (h1 : 0 ≤ id ∧ id ≤ 9223372036854775807) (h2 : 0 ≤ len ∧ len ≤ 40) : Docs (l ++ [(id, len)]) :=
  ⟨by simp; omega, fun p hp => by
    rcases List.mem_append.1 hp with hp | hp
    · exact h.2 p hp
    · simp at hp; subst hp; exact ⟨h1, h2⟩⟩
set_option maxRecDepth 100000 in
set_option maxHeartbeats 4000000 in
theorem alive11 (w : World) : Calls Try.prog 23 #[] w fun e w' => e = .returned (.bool true) ∧ Below w.heap.size w w' := by
  obtain ⟨K, hK⟩ : ∃ K : Nat → Prop, K = fun b => b < w.heap.size := ⟨_, rfl⟩
  have HK := Lib.hid hK
  clear hK
  go_enter Try.func23, Try.ntmps23
  go_wp2_with fail
  refine (new_yes 20 w (by decide) (by decide)).mono ?_
  rintro e w1 ⟨p, rfl, hb, ha⟩
  replace ha := ha K (fun _ h => by rw [HK.out] at h; exact h)
  have Hk := Lib.hid (Kept.of_below hb K)
  clear hb
  have H := Lib.hid (tadd_gen (len := 3) (placed_nil 7) (by decide) (by decide) (by decide) (by decide) (by decide) (gd_new (n := 20) (by decide) (by decide)) (by decide) (by decide) (Lh.nil _) (.inl rfl) docs_nil ha)
  clear ha
  go_wp2_with fail
  refine H.out.mono ?_
  clear H
  rintro e w2 ⟨h, s1, e1, rfl, ha, hk, R⟩
  have lc0 : lc 0 = 4 := by
    have e0 : bl 0 = 0 := by
      have := (bl_is 0).2 0
      refine Classical.byContradiction fun c => ?_
      have := this (by omega)
      omega
    show (if 0 ≤ 100 then 4 + 4 * bl 0 else 130) = 4
    rw [if_pos (by omega), e0]
  obtain ⟨k1, a1, a2, a3⟩ := R.went.made
  have a1' : k1 ≤ 4 := by rw [← lc0]; exact a1
  have b0 : (Ar.new 20).busy = 0 := rfl
  have m0 : (Ar.new 20).made = 0 := rfl
  obtain rfl := R.sure (by show (0 : Int) + (lc 0 : Nat) < 20; rw [lc0]; decide)
  have hl := R.lh rfl
  have g := R.gd.goodb (by simp) (by omega)
  clear R a1 a2 a3 a1' b0 m0 lc0
  replace Hk := Lib.hid (Hk.out.trans hk)
  have hd : Docs ([] ++ [((7 : Int), (3 : Int))]) := docs_snoc docs_nil (by decide) (by decide) (by decide)
  have H1 := Lib.hid (at_is (i := 0) (a := 7) (b := 3) rfl g (by decide) hl (.inr (.inl (by simp))) hd ha)
  have H2 := fun W hb => Lib.hid (total_is (w := W) (t := 4) rfl g (by decide) hl (.inr (.inl (by simp))) hd (ha.below hb))
  have H3 := fun W hb => Lib.hid (tlen_is (w := W) (h := 0) (n := 0) (l := []) rfl g (by decide) (Lh.nil _) (.inl rfl) (by decide) (ha.below hb))
  clear ha hk g hl hd
  go_wp2_with fail
  refine H1.out.mono ?_
  clear H1
  rintro e w3 ⟨rfl, k3⟩
  have B3 := Lib.hid k3
  clear k3
  go_wp2_with fail
  refine (H2 _ B3.out).out.mono ?_
  rintro e w4 ⟨rfl, k4⟩
  have B4 := Lib.hid (B3.out.trans (k4.mono B3.out.size))
  clear k4
  go_wp2_with fail
  refine (H3 _ B4.out).out.mono ?_
  rintro e w5 ⟨rfl, _, k5⟩
  go_wp2_with fail
  go_ret
  exact ⟨rfl, (Hk.out.below fun b hb => by rw [HK.out]; exact hb).trans ((B4.out.trans (k5.mono B4.out.size)).mono Hk.out.size)⟩
end Go.Proofs.Ytcdmebjggdhhdaa
namespace Go.Proofs.Ytcdmebjggdhhdaa
open Go.RowKit

/-- A temporary that has its value, or not yet. -/
def po (a : Act) (d : Nat) : Option Value → Act
  | none => a
  | some v => a.put (some d) v
theorem po_put {a : Act} {d d' : Nat} (h : d ≠ d') (x : Option Value) (v : Value) : (po a d x).put (some d') v = po (a.put (some d') v) d x := by
  cases x with
  | none => rfl
  | some u => exact Act.put_comm a (x := some d) (y := some d') u v fun e he h2 => h (Option.some.inj (he.trans h2.symm))
def fr (a : Act) (d1 d3 d4 d5 : Nat) (x1 x3 x4 x5 : Option Value) : Act := po (po (po (po a d1 x1) d3 x3) d4 x4) d5 x5
theorem put_get {a : Act} {d i : Nat} (h : d ≠ i) (v : Value) : (a.put (some d) v).tmps.getD i undef = a.tmps.getD i undef := by
  show (a.tmps.setIfInBounds d v).getD i undef = _
  simp only [Array.getD_eq_getD_getElem?]
  rw [Array.getElem?_setIfInBounds_ne h]
theorem po_get {a : Act} {d i : Nat} (h : d ≠ i) (x : Option Value) : (po a d x).tmps.getD i undef = a.tmps.getD i undef := by
  cases x with
  | none => rfl
  | some v => exact put_get h v
section
variable {P : Program} {ops : Array Oper} {Q : Exit → Act → World → Prop}
def ptr (g : Nat) : Value := .pointer (some ⟨g, 0, none⟩)
def opt (b : Bool) (v : Value) : Option Value := if b then some v else none
def lacks (b1 b3 b4 b5 : Bool) : Nat := (if b1 then 0 else 1) + (if b3 then 0 else 1) + (if b4 then 0 else 1) + (if b5 then 0 else 1)
theorem dag {a0 : Act} {w0 : World} {vl vz n1 n3 : Value} {o : Obj} {d1 d3 d4 d5 i1 i3 : Nat}
    (e1 : d1 ≠ d3) (e2 : d1 ≠ d4) (e3 : d1 ≠ d5) (e4 : d3 ≠ d4) (e5 : d3 ≠ d5) (e6 : d4 ≠ d5)
    (m1 : d1 ≠ i1) (m2 : d3 ≠ i1) (m3 : d4 ≠ i1) (m4 : d5 ≠ i1) (m5 : d1 ≠ i3) (m6 : d3 ≠ i3) (m7 : d4 ≠ i3) (m8 : d5 ≠ i3)
    (hr : ∀ b1 b3 b4 b5 : Bool, (b3 = true → b1 = true) → Region.ready .any ops #[true, b1, true, b3, b4, b5, false, false] = (if b1 then [] else [1]) ++ (if b1 && !b3 then [3] else []) ++ (if b4 then [] else [4]) ++ (if b5 then [] else [5]) ++ (if b1 && b3 && b4 && b5 then [6] else []))
    (h1 : ∀ (a : Act) (w : World) (K : Act → World → Prop), a.tmps.getD i1 undef = n1 → (∀ w', Below w.heap.size w w' → K (a.put (some d1) vl) w') → wpOp P ops Q 1 K a w)
    (h3 : ∀ (a : Act) (w : World) (K : Act → World → Prop), a.tmps.getD i3 undef = n3 → (∀ w', Below w.heap.size w w' → K (a.put (some d3) vz) w') → wpOp P ops Q 3 K a w)
    (h4 : ∀ (a : Act) (w : World) (K : Act → World → Prop), K (a.put (some d4) (ptr w.heap.size)) (w.alloc o) → wpOp P ops Q 4 K a w)
    (h5 : ∀ (a : Act) (w : World) (K : Act → World → Prop), K (a.put (some d5) (ptr w.heap.size)) (w.alloc o) → wpOp P ops Q 5 K a w)
    (hfin : ∀ (g4 g5 : Nat) (w : World), Below w0.heap.size w0 w → w.heap[g4]? = some o → w.heap[g5]? = some o → g4 ≠ g5 → w0.heap.size ≤ g4 → w0.heap.size ≤ g5 →
      wpAnyH P .any ops Q (fun w => Below w0.heap.size w0 w) 2 #[true, true, true, true, true, true, false, false] ((((a0.put (some d1) vl).put (some d3) vz).put (some d4) (ptr g4)).put (some d5) (ptr g5)) w)
    (k1 : a0.tmps.getD i1 undef = n1) (k3 : a0.tmps.getD i3 undef = n3) {w : World} (hw : Below w0.heap.size w0 w) :
    wpAnyH P .any ops Q (fun w => Below w0.heap.size w0 w) 6 #[true, false, true, false, false, false, false, false] a0 w := by
  have main : ∀ (n : Nat) (b1 b3 b4 b5 : Bool) (a : Act) (w : World) (g4 g5 : Nat), (b3 = true → b1 = true) → n = lacks b1 b3 b4 b5 → a = fr a0 d1 d3 d4 d5 (opt b1 vl) (opt b3 vz) (opt b4 (ptr g4)) (opt b5 (ptr g5)) → Below w0.heap.size w0 w →
      (b4 = true → w0.heap.size ≤ g4 ∧ w.heap[g4]? = some o) → (b5 = true → w0.heap.size ≤ g5 ∧ w.heap[g5]? = some o) → (b4 = true → b5 = true → g4 ≠ g5) →
      wpAnyH P .any ops Q (fun w => Below w0.heap.size w0 w) (n + 2) #[true, b1, true, b3, b4, b5, false, false] a w := by
    intro n
    induction n with
    | zero =>
      intro b1 b3 b4 b5 a w g4 g5 _ hn ha hB f4 f5 ne
      cases b1 <;> cases b3 <;> cases b4 <;> cases b5 <;> simp [lacks] at hn
      subst ha
      obtain ⟨u1, u2⟩ := f4 rfl
      obtain ⟨v1, v2⟩ := f5 rfl
      exact hfin g4 g5 w hB u2 v2 (ne rfl rfl) u1 v1
    | succ n ih =>
      intro b1 b3 b4 b5 a w g4 g5 h13 hn ha hB f4 f5 ne
      have keep : ∀ {w' : World}, Below w.heap.size w w' → Below w0.heap.size w0 w' ∧ (b4 = true → w0.heap.size ≤ g4 ∧ w'.heap[g4]? = some o) ∧ (b5 = true → w0.heap.size ≤ g5 ∧ w'.heap[g5]? = some o) := fun {w'} hb =>
        ⟨hB.trans (hb.mono hB.size), fun e => ⟨(f4 e).1, (hb.block g4 (lt_heap (f4 e).2)).trans (f4 e).2⟩, fun e => ⟨(f5 e).1, (hb.block g5 (lt_heap (f5 e).2)).trans (f5 e).2⟩⟩
      have q1 : a.tmps.getD i1 undef = n1 := by
        rw [ha]; unfold fr
        rw [po_get m4, po_get m3, po_get m2, po_get m1]; exact k1
      have q3 : a.tmps.getD i3 undef = n3 := by
        rw [ha]; unfold fr
        rw [po_get m8, po_get m7, po_get m6, po_get m5]; exact k3
      have hrr := hr b1 b3 b4 b5 h13
      refine wpAnyH_all hrr (by cases b1 <;> cases b3 <;> cases b4 <;> cases b5 <;> simp [lacks] at hn ⊢) fun i hi => ?_
      simp only [List.mem_append] at hi
      rcases hi with (((hi | hi) | hi) | hi) | hi
      · cases b1 with
        | true => simp at hi
        | false =>
          obtain rfl : i = 1 := by simpa using hi
          have b3f : b3 = false := by cases b3 with
            | false => rfl
            | true => exact absurd (h13 rfl) (by decide)
          subst b3f
          refine h1 a w _ q1 fun w' hb => ?_
          obtain ⟨z1, z2, z3⟩ := keep hb
          refine ⟨z1, ih true false b4 b5 _ w' g4 g5 (fun _ => rfl) (by simp only [lacks] at hn ⊢; simp at hn ⊢; omega) ?_ z1 z2 z3 ne⟩
          rw [ha]
          unfold fr
          rw [po_put e3.symm, po_put e2.symm, po_put e1.symm]
          rfl
      · by_cases hb : (b1 && !b3) = true
        · obtain ⟨c1, c2⟩ : b1 = true ∧ b3 = false := by simpa using hb
          subst c1 c2
          obtain rfl : i = 3 := by simpa using hi
          refine h3 a w _ q3 fun w' hb => ?_
          obtain ⟨z1, z2, z3⟩ := keep hb
          refine ⟨z1, ih true true b4 b5 _ w' g4 g5 (fun _ => rfl) (by simp only [lacks] at hn ⊢; simp at hn ⊢; omega) ?_ z1 z2 z3 ne⟩
          rw [ha]
          unfold fr
          rw [po_put e5.symm, po_put e4.symm]
          rfl
        · rw [if_neg hb] at hi; cases hi
      · cases b4 with
        | true => simp at hi
        | false =>
          obtain rfl : i = 4 := by simpa using hi
          refine h4 a w _ ?_
          have hb : Below w.heap.size w (w.alloc o) := (Below.refl _ _).alloc (Nat.le_refl _) o
          obtain ⟨z1, _, z3⟩ := keep hb
          refine ⟨z1, ih b1 b3 true b5 _ _ w.heap.size g5 h13 (by simp only [lacks] at hn ⊢; simp at hn ⊢; omega) ?_ z1 (fun _ => ⟨hB.size, heap_alloc_new _ _⟩) z3 fun _ e => ?_⟩
          · rw [ha]
            unfold fr
            rw [po_put e6.symm]
            rfl
          · have := lt_heap (f5 e).2
            omega
      · cases b5 with
        | true => simp at hi
        | false =>
          obtain rfl : i = 5 := by simpa using hi
          refine h5 a w _ ?_
          have hb : Below w.heap.size w (w.alloc o) := (Below.refl _ _).alloc (Nat.le_refl _) o
          obtain ⟨z1, z2, _⟩ := keep hb
          refine ⟨z1, ih b1 b3 b4 true _ _ g4 w.heap.size h13 (by simp only [lacks] at hn ⊢; simp at hn ⊢; omega) ?_ z1 z2 (fun _ => ⟨hB.size, heap_alloc_new _ _⟩) fun e _ => ?_⟩
          · rw [ha]
            rfl
          · have := lt_heap (f4 e).2
            omega
      · by_cases hb : (b1 && b3 && b4 && b5) = true
        · obtain ⟨⟨⟨c1, c2⟩, c3⟩, c4⟩ : ((b1 = true ∧ b3 = true) ∧ b4 = true) ∧ b5 = true := by simpa using hb
          subst c1 c2 c3 c4
          simp [lacks] at hn
        · rw [if_neg hb] at hi; cases hi
  exact main 4 false false false false a0 w 0 0 (fun h => by cases h) rfl rfl hw (fun h => by cases h) (fun h => by cases h) (fun h => by cases h)
end
end Go.Proofs.Ytcdmebjggdhhdaa
namespace Go.Proofs.Ytcdmebjggdhhdaa
open Go.RowKit

/-- A step that writes own blocks alone. -/
structure Grew (w w' : World) (B : Nat) (k k' : Nat → Prop) : Prop where
  more : ∀ b, k b → k' b
  new : ∀ b, k' b → b < w'.heap.size ∧ (k b ∨ w.heap.size ≤ b)
  size : w.heap.size ≤ w'.heap.size
  same : ∀ b, b < w.heap.size → ¬ k b → w'.heap[b]? = w.heap[b]?
  below : Below B w w'
theorem PushedS.grew {w w' : World} {B : Nat} {K K' : Nat → Prop} {v' : Value} {xs : List Int} (h : PushedS w w' B K K' v' xs) : Grew w w' B K K' := ⟨h.more, h.new, h.size, h.same, h.below⟩
theorem Grew.alloc (w : World) (B : Nat) (hB : B ≤ w.heap.size) (k : Nat → Prop) (hk : ∀ b, k b → b < w.heap.size) (o : Obj) : Grew w (w.alloc o) B k (fun b => k b ∨ b = w.heap.size) :=
  ⟨fun _ h => .inl h, fun b h => by
    have : (w.alloc o).heap.size = w.heap.size + 1 := by simp
    rcases h with h | rfl
    · exact ⟨by have := hk b h; omega, .inl h⟩
    · exact ⟨by omega, .inr (Nat.le_refl _)⟩, by simp, fun b hb _ => Below.heap_alloc w o b hb, (Below.refl _ _).alloc hB o⟩
/-- What the two chains have of the heap. -/
structure Pair2 (w0 : World) (B : Nat) (j1 j2 k1 k2 : Nat → Prop) (w : World) : Prop where
  apart : ∀ b, k1 b → ¬ k2 b
  lt1 : ∀ b, k1 b → b < w.heap.size
  lt2 : ∀ b, k2 b → b < w.heap.size
  new1 : ∀ b, k1 b → j1 b ∨ w0.heap.size ≤ b
  new2 : ∀ b, k2 b → j2 b ∨ w0.heap.size ≤ b
  size : w0.heap.size ≤ w.heap.size
  same : ∀ b, b < w0.heap.size → ¬ j1 b → ¬ j2 b → w.heap[b]? = w0.heap[b]?
  below : Below B w0 w
theorem Pair2.swap {w0 w : World} {B : Nat} {j1 j2 k1 k2 : Nat → Prop} (h : Pair2 w0 B j1 j2 k1 k2 w) : Pair2 w0 B j2 j1 k2 k1 w := ⟨fun b h2 h1 => h.apart b h1 h2, h.lt2, h.lt1, h.new2, h.new1, h.size, fun b hb a c => h.same b hb c a, h.below⟩
theorem Pair2.step1 {w0 w w' : World} {B : Nat} {j1 j2 k1 k2 k' : Nat → Prop} (h : Pair2 w0 B j1 j2 k1 k2 w) (g : Grew w w' B k1 k') : Pair2 w0 B j1 j2 k' k2 w' ∧ ∀ b, b < w.heap.size → k2 b → w'.heap[b]? = w.heap[b]? := by
  refine ⟨⟨fun b h1 h2 => ?_, fun b h1 => (g.new b h1).1, fun b h2 => Nat.lt_of_lt_of_le (h.lt2 b h2) g.size, fun b h1 => ?_, h.new2, Nat.le_trans h.size g.size, fun b hb a c => ?_, h.below.trans g.below⟩, fun b hb h2 => g.same b hb fun h1 => h.apart b h1 h2⟩
  · rcases (g.new b h1).2 with x | x
    · exact h.apart b x h2
    · have := h.lt2 b h2; omega
  · rcases (g.new b h1).2 with x | x
    · exact h.new1 b x
    · exact .inr (Nat.le_trans h.size x)
  · rw [g.same b (Nat.lt_of_lt_of_le hb h.size) fun h1 => ?_]
    · exact h.same b hb a c
    · rcases h.new1 b h1 with x | x
      · exact a x
      · omega
section
variable {P : Program} {ops : Array Oper} {Q : Exit → Act → World → Prop}
def lack4 (b1 b2 b3 b4 : Bool) : Nat := (if b1 then 0 else 1) + (if b2 then 0 else 1) + (if b3 then 0 else 1) + (if b4 then 0 else 1)
theorem put_at {a : Act} {d : Nat} (h : d < a.tmps.size) (v : Value) : (a.put (some d) v).tmps.getD d undef = v := by
  show (a.tmps.setIfInBounds d v).getD d undef = v
  simp [Array.getD_eq_getD_getElem?, h]
theorem po_size (a : Act) (d : Nat) (x : Option Value) : (po a d x).tmps.size = a.tmps.size := by
  cases x with
  | none => rfl
  | some v => show (a.tmps.setIfInBounds d v).size = _; simp
theorem chains {a0 : Act} {w0 : World} {B : Nat} {j1 j2 : Nat → Prop} {d1 d2 d3 d4 i1 i2 i3 i4 m : Nat} {L : Bool → Bool → Bool → Bool → Array Bool} {R : Bool → Bool → Bool → Bool → List Nat} {S : World → Prop}
    {P1 P2 : Option Value → Option Value → (Nat → Prop) → World → Prop}
    (hB : B ≤ w0.heap.size) (hS : ∀ k1 k2 w, Pair2 w0 B j1 j2 k1 k2 w → S w)
    (e12 : d1 ≠ d2) (e13 : d1 ≠ d3) (e14 : d1 ≠ d4) (e23 : d2 ≠ d3) (e24 : d2 ≠ d4) (e34 : d3 ≠ d4) (z1 : d1 < a0.tmps.size) (z3 : d3 < a0.tmps.size)
    (hr : ∀ b1 b2 b3 b4 : Bool, (b2 = true → b1 = true) → (b4 = true → b3 = true) → Region.ready .any ops (L b1 b2 b3 b4) = R b1 b2 b3 b4)
    (hR : ∀ b1 b2 b3 b4 : Bool, (b2 = true → b1 = true) → (b4 = true → b3 = true) → (b1 && b2 && b3 && b4) = false → R b1 b2 b3 b4 ≠ [] ∧ ∀ i, i ∈ R b1 b2 b3 b4 → (i = i1 ∧ b1 = false) ∨ (i = i2 ∧ b1 = true ∧ b2 = false) ∨ (i = i3 ∧ b3 = false) ∨ (i = i4 ∧ b3 = true ∧ b4 = false))
    (s1 : ∀ y z t, (L false y z t).setIfInBounds i1 true = L true y z t) (s2 : ∀ x z t, (L x false z t).setIfInBounds i2 true = L x true z t) (s3 : ∀ x y t, (L x y false t).setIfInBounds i3 true = L x y true t) (s4 : ∀ x y z, (L x y z false).setIfInBounds i4 true = L x y z true)
    (st1 : ∀ x y k w w', P1 x y k w → (∀ b, k b → b < w.heap.size) → (∀ b, b < w.heap.size → k b → w'.heap[b]? = w.heap[b]?) → P1 x y k w')
    (st2 : ∀ x y k w w', P2 x y k w → (∀ b, k b → b < w.heap.size) → (∀ b, b < w.heap.size → k b → w'.heap[b]? = w.heap[b]?) → P2 x y k w')
    (h1 : ∀ (a : Act) (w : World) (k : Nat → Prop) (K : Act → World → Prop), (∀ i, i ≠ d1 → i ≠ d2 → i ≠ d3 → i ≠ d4 → a.tmps.getD i undef = a0.tmps.getD i undef) → S w → B ≤ w.heap.size → (∀ b, k b → b < w.heap.size) → P1 none none k w → (∀ v w' k', P1 (some v) none k' w' → Grew w w' B k k' → K (a.put (some d1) v) w') → wpOp P ops Q i1 K a w)
    (h2 : ∀ (a : Act) (w : World) (k : Nat → Prop) (v : Value) (K : Act → World → Prop), (∀ i, i ≠ d1 → i ≠ d2 → i ≠ d3 → i ≠ d4 → a.tmps.getD i undef = a0.tmps.getD i undef) → a.tmps.getD d1 undef = v → S w → B ≤ w.heap.size → (∀ b, k b → b < w.heap.size) → P1 (some v) none k w → (∀ v' w' k', P1 (some v) (some v') k' w' → Grew w w' B k k' → K (a.put (some d2) v') w') → wpOp P ops Q i2 K a w)
    (h3 : ∀ (a : Act) (w : World) (k : Nat → Prop) (K : Act → World → Prop), (∀ i, i ≠ d1 → i ≠ d2 → i ≠ d3 → i ≠ d4 → a.tmps.getD i undef = a0.tmps.getD i undef) → S w → B ≤ w.heap.size → (∀ b, k b → b < w.heap.size) → P2 none none k w → (∀ v w' k', P2 (some v) none k' w' → Grew w w' B k k' → K (a.put (some d3) v) w') → wpOp P ops Q i3 K a w)
    (h4 : ∀ (a : Act) (w : World) (k : Nat → Prop) (v : Value) (K : Act → World → Prop), (∀ i, i ≠ d1 → i ≠ d2 → i ≠ d3 → i ≠ d4 → a.tmps.getD i undef = a0.tmps.getD i undef) → a.tmps.getD d3 undef = v → S w → B ≤ w.heap.size → (∀ b, k b → b < w.heap.size) → P2 (some v) none k w → (∀ v' w' k', P2 (some v) (some v') k' w' → Grew w w' B k k' → K (a.put (some d4) v') w') → wpOp P ops Q i4 K a w)
    (hfin : ∀ (v1 v2 v3 v4 : Value) (k1 k2 : Nat → Prop) (w : World), P1 (some v1) (some v2) k1 w → P2 (some v3) (some v4) k2 w → Pair2 w0 B j1 j2 k1 k2 w →
      wpAnyH P .any ops Q S m (L true true true true) ((((a0.put (some d1) v1).put (some d2) v2).put (some d3) v3).put (some d4) v4) w)
    (p1 : P1 none none j1 w0) (p2 : P2 none none j2 w0) (ap : ∀ b, j1 b → ¬ j2 b) (l1 : ∀ b, j1 b → b < w0.heap.size) (l2 : ∀ b, j2 b → b < w0.heap.size) :
    wpAnyH P .any ops Q S (4 + m) (L false false false false) a0 w0 := by
  have main : ∀ (n : Nat) (b1 b2 b3 b4 : Bool) (a : Act) (w : World) (v1 v2 v3 v4 : Value) (k1 k2 : Nat → Prop), (b2 = true → b1 = true) → (b4 = true → b3 = true) → n = lack4 b1 b2 b3 b4 → a = fr a0 d1 d2 d3 d4 (opt b1 v1) (opt b2 v2) (opt b3 v3) (opt b4 v4) → Pair2 w0 B j1 j2 k1 k2 w → P1 (opt b1 v1) (opt b2 v2) k1 w → P2 (opt b3 v3) (opt b4 v4) k2 w →
      wpAnyH P .any ops Q S (n + m) (L b1 b2 b3 b4) a w := by
    intro n
    induction n with
    | zero =>
      intro b1 b2 b3 b4 a w v1 v2 v3 v4 k1 k2 _ _ hn ha hp q1 q2
      cases b1 <;> cases b2 <;> cases b3 <;> cases b4 <;> simp [lack4] at hn
      subst ha
      rw [Nat.zero_add]
      exact hfin v1 v2 v3 v4 k1 k2 w q1 q2 hp
    | succ n ih =>
      intro b1 b2 b3 b4 a w v1 v2 v3 v4 k1 k2 c21 c43 hn ha hp q1 q2
      have rest : ∀ i, i ≠ d1 → i ≠ d2 → i ≠ d3 → i ≠ d4 → a.tmps.getD i undef = a0.tmps.getD i undef := fun i x1 x2 x3 x4 => by
        rw [ha]; unfold fr
        rw [po_get (Ne.symm x4), po_get (Ne.symm x3), po_get (Ne.symm x2), po_get (Ne.symm x1)]
      have hBw : B ≤ w.heap.size := Nat.le_trans hB hp.size
      have hrr := hr b1 b2 b3 b4 c21 c43
      rw [show n + 1 + m = (n + m) + 1 by omega]
      obtain ⟨hne, hsub⟩ := hR b1 b2 b3 b4 c21 c43 (by cases b1 <;> cases b2 <;> cases b3 <;> cases b4 <;> simp [lack4] at hn ⊢)
      refine wpAnyH_all hrr hne fun i hi => ?_
      rcases hsub i hi with ⟨rfl, rfl⟩ | ⟨rfl, rfl, rfl⟩ | ⟨rfl, rfl⟩ | ⟨rfl, rfl, rfl⟩
      · obtain rfl : b2 = false := by cases b2 with
          | false => rfl
          | true => exact absurd (c21 rfl) (by decide)
        refine h1 a w k1 _ rest (hS _ _ _ hp) hBw hp.lt1 q1 fun v w' k' q' g => ?_
        obtain ⟨hp', kp⟩ := hp.step1 g
        refine ⟨hS _ _ _ hp', ?_⟩
        rw [s1]
        refine ih true false b3 b4 _ w' v v2 v3 v4 k' k2 (fun _ => rfl) c43 (by simp only [lack4] at hn ⊢; simp at hn ⊢; omega) ?_ hp' q' (st2 _ _ _ _ _ q2 hp.lt2 kp)
        rw [ha]
        unfold fr
        rw [po_put e14.symm, po_put e13.symm, po_put e12.symm]
        rfl
      · have q : a.tmps.getD d1 undef = v1 := by
          rw [ha]; unfold fr
          rw [po_get e14.symm, po_get e13.symm, po_get e12.symm]
          exact put_at z1 v1
        refine h2 a w k1 v1 _ rest q (hS _ _ _ hp) hBw hp.lt1 q1 fun v w' k' q' g => ?_
        obtain ⟨hp', kp⟩ := hp.step1 g
        refine ⟨hS _ _ _ hp', ?_⟩
        rw [s2]
        refine ih true true b3 b4 _ w' v1 v v3 v4 k' k2 (fun _ => rfl) c43 (by simp only [lack4] at hn ⊢; simp at hn ⊢; omega) ?_ hp' q' (st2 _ _ _ _ _ q2 hp.lt2 kp)
        rw [ha]
        unfold fr
        rw [po_put e24.symm, po_put e23.symm]
        rfl
      · obtain rfl : b4 = false := by cases b4 with
          | false => rfl
          | true => exact absurd (c43 rfl) (by decide)
        refine h3 a w k2 _ rest (hS _ _ _ hp) hBw hp.lt2 q2 fun v w' k' q' g => ?_
        obtain ⟨hp', kp⟩ := hp.swap.step1 g
        have hp' := hp'.swap
        refine ⟨hS _ _ _ hp', ?_⟩
        rw [s3]
        refine ih b1 b2 true false _ w' v1 v2 v v4 k1 k' c21 (fun _ => rfl) (by simp only [lack4] at hn ⊢; simp at hn ⊢; omega) ?_ hp' (st1 _ _ _ _ _ q1 hp.lt1 kp) q'
        rw [ha]
        unfold fr
        rw [po_put e34.symm]
        rfl
      · have q : a.tmps.getD d3 undef = v3 := by
          rw [ha]; unfold fr
          rw [po_get e34.symm]
          exact put_at (by rw [po_size, po_size]; exact z3) v3
        refine h4 a w k2 v3 _ rest q (hS _ _ _ hp) hBw hp.lt2 q2 fun v w' k' q' g => ?_
        obtain ⟨hp', kp⟩ := hp.swap.step1 g
        have hp' := hp'.swap
        refine ⟨hS _ _ _ hp', ?_⟩
        rw [s4]
        refine ih b1 b2 true true _ w' v1 v2 v3 v k1 k' c21 (fun _ => rfl) (by simp only [lack4] at hn ⊢; simp at hn ⊢; omega) ?_ hp' (st1 _ _ _ _ _ q1 hp.lt1 kp) q'
        rw [ha]
        rfl
  exact main 4 false false false false a0 w0 undef undef undef undef j1 j2 (fun h => by cases h) (fun h => by cases h) rfl rfl ⟨ap, l1, l2, fun b h => .inl h, fun b h => .inl h, Nat.le_refl _, fun _ _ _ _ => rfl, Below.refl _ _⟩ p1 p2
end
end Go.Proofs.Ytcdmebjggdhhdaa
namespace Go.Proofs.Ytcdmebjggdhhdaa
open Go.RowKit

theorem run_append_any {w : World} {B : Nat} {K : Nat → Prop} {v vx : Value} {xs ys : List Int} (hL : Lst w B K v xs) (hlt : ∀ b, K b → b < w.heap.size) (hB : B ≤ w.heap.size) (hI : Ints w vx ys) (hlen : xs.length + ys.length ≤ 1000000000) (ty : TypeId) :
    ∃ v' w' K', (Builtin.append_ #[35, 35] ty #[v, vx]).run Try.prog w = .ok v' w' ∧ PushedS w w' B K K' v' (xs ++ ys) := by
  rcases hI with ⟨rfl, rfl⟩ | ⟨b, off, c, rfl, h1, h2, h3⟩
  · obtain ⟨i0, hi, hz0, hz1, hz2⟩ := info_parts info_int
    refine ⟨v, w, K, run_append_owned_none w B 35 ty 3 i0 1 Try.underlying35 hi v xs.length _ hL.1, ⟨by simpa using hL, fun b hb => hb, fun b hb => ⟨hlt b hb, .inl hb⟩, Nat.le_refl _, fun _ _ _ => rfl, Below.refl _ _⟩⟩
  · exact run_append_ints hL hlt hB ⟨b, off, none⟩ ys.length c rfl hlen (fun j hj => by rw [Addr.add_lit]; exact h3 j hj) ty
theorem wp_append_any {w : World} {B : Nat} {K : Nat → Prop} {v vx : Value} {xs ys : List Int} {o : Oper} {a : Act} {Kc : Act → World → Prop} {Q : Exit → Act → World → Prop} (hL : Lst w B K v xs) (hlt : ∀ b, K b → b < w.heap.size) (hB : B ≤ w.heap.size) (hI : Ints w vx ys) (hlen : xs.length + ys.length ≤ 1000000000) (s x : Operand)
    (ho : o.op = Op.call { callee := Callee.builtin Builtin.append, args := #[s, x], argTypes := #[35, 35] }) (hs : a.eval s = v) (hx : a.eval x = vx) (h : ∀ v' w' K', PushedS w w' B K K' v' (xs ++ ys) → Kc (a.put o.dst v') w') : o.wp Try.prog a w Kc Q := by
  obtain ⟨v', w', K', hr, hp⟩ := run_append_any hL hlt hB hI hlen o.type
  unfold Oper.wp execOp
  simp only [ho, resolve, invoke, builtin, Sem.run_bind, Sem.run_pure, Result.andThen_ok, List.map_toArray, List.map_cons, List.map_nil, hs, hx, hr]
  exact h v' w' K' hp
theorem wpList_append_any {w : World} {B : Nat} {K : Nat → Prop} {v vx : Value} {xs ys : List Int} {ops : Array Oper} {rest : List Oper} {o : Oper} {a : Act} {Q : Exit → Act → World → Prop} (hL : Lst w B K v xs) (hlt : ∀ b, K b → b < w.heap.size) (hB : B ≤ w.heap.size) (hI : Ints w vx ys) (hlen : xs.length + ys.length ≤ 1000000000) (hgd : o.guard = none) (s x : Operand)
    (ho : o.op = Op.call { callee := Callee.builtin Builtin.append, args := #[s, x], argTypes := #[35, 35] }) (hs : a.eval s = v) (hx : a.eval x = vx) (h : ∀ v' w' K', PushedS w w' B K K' v' (xs ++ ys) → wpList Try.prog ops Q rest (a.put o.dst v') w') : wpList Try.prog ops Q (o :: rest) a w :=
  wpList_plain hgd fun _ hK => wp_append_any hL hlt hB hI hlen s x ho hs hx fun v' w' K' hp => hK _ _ (h v' w' K' hp)
theorem Lst.same {w w' : World} {B : Nat} {K : Nat → Prop} {v : Value} {xs : List Int} (h : Lst w B K v xs) (hs : ∀ b, b < w.heap.size → K b → w'.heap[b]? = w.heap[b]?) : Lst w' B K v xs := by
  obtain ⟨⟨h1, h2⟩, h3⟩ := h
  refine ⟨⟨h1, ?_⟩, h3⟩
  rcases h2 with h2 | ⟨g, cap, cur, rfl, hg, hh, r⟩
  · exact .inl h2
  · exact .inr ⟨g, cap, cur, rfl, hg, (hs g (lt_heap hh) (h3 g rfl)).trans hh, r⟩
/-- One more number is put behind a list. -/
def Snoc (B : Nat) (nv : Value) (xs : List Int) (x : Int) : Option Value → Option Value → (Nat → Prop) → World → Prop
  | none, _, k, w => Lst w B k nv xs
  | some v, none, k, w => Lst w B k nv xs ∧ ∃ g, v = .slice (some ⟨g, 0, none⟩) 1 1 ∧ k g ∧ g < w.heap.size ∧ w.cell? ⟨g, 0, none⟩ = some (.int .i64 x)
  | some _, some v', k, w => Lst w B k v' (xs ++ [x])
theorem lt_kept {w w' : World} {g : Nat} (lg : g < w.heap.size) (h : w'.heap[g]? = w.heap[g]?) : g < w'.heap.size := Nat.lt_of_not_le fun hg => by
  rw [Array.getElem?_eq_none hg, Array.getElem?_eq_getElem lg] at h
  cases h
theorem Snoc.same {B : Nat} {nv : Value} {xs : List Int} {x : Int} : ∀ (a b : Option Value) (k : Nat → Prop) (w w' : World), Snoc B nv xs x a b k w → (∀ b, k b → b < w.heap.size) → (∀ b, b < w.heap.size → k b → w'.heap[b]? = w.heap[b]?) → Snoc B nv xs x a b k w'
  | none, _, _, _, _, h, _, hs => Lst.same h hs
  | some _, none, _, _, _, ⟨h, g, e, kg, lg, c⟩, _, hs => ⟨Lst.same h hs, g, e, kg, lt_kept lg (hs g lg kg), (World.cell?_of_block (hs g lg kg)).trans c⟩
  | some _, some _, _, _, _, h, _, hs => Lst.same (xs := xs ++ [x]) h hs
/-- Two parts are put behind one another. -/
def Join (B : Nat) (xs ys : List Int) : Option Value → Option Value → (Nat → Prop) → World → Prop
  | none, _, _, _ => True
  | some v, none, k, w => Lst w B k v xs
  | some _, some v', k, w => Lst w B k v' (xs ++ ys)
theorem Join.same {B : Nat} {xs ys : List Int} : ∀ (a b : Option Value) (k : Nat → Prop) (w w' : World), Join B xs ys a b k w → (∀ b, k b → b < w.heap.size) → (∀ b, b < w.heap.size → k b → w'.heap[b]? = w.heap[b]?) → Join B xs ys a b k w'
  | none, _, _, _, _, _, _, _ => trivial
  | some v, none, _, _, _, h, _, hs => Lst.same (v := v) (xs := xs) h hs
  | some _, some v, _, _, _, h, _, hs => Lst.same (v := v) (xs := xs ++ ys) h hs
/-- A part of a list is a slice of its row. -/
theorem Lst.part {w : World} {B : Nat} {K : Nat → Prop} {g n c : Nat} {xs : List Int} (h : Lst w B K (.slice (some ⟨g, 0, none⟩) n c) xs) (hn : xs.length = n) (i m : Nat) (him : i + m ≤ n) (hm : 0 < n) (cc : Nat) (hcc : m ≤ cc) : Ints w (.slice (some ⟨g, i, none⟩) m cc) ((xs.drop i).take m) := by
  obtain ⟨g2, c2, e2, hc2, _, hc⟩ := h.at_ (i := 0) (by omega)
  cases e2
  have hl : ((xs.drop i).take m).length = m := by simp; omega
  refine .inr ⟨g, i, cc, by rw [hl], ?_, by rw [hl]; exact hcc, fun j hj => ?_⟩
  · have := hc 0 (by omega)
    rcases h.1.2 with ⟨e, _⟩ | ⟨g', cap, cur, e, hg, hh, _⟩
    · cases e
    · cases e; exact lt_heap hh
  · rw [hl] at hj
    rw [hc (i + j) (by omega)]
    simp [List.getD, hj]
end Go.Proofs.Ytcdmebjggdhhdaa
namespace Go.Proofs.Ytcdmebjggdhhdaa
open Go.ChangeShapes Go.WideShapes Go.ChangeAt Go.RowKit

/-- The last place of a number among the first j, or -1. -/
def plcTo (xs : List Int) (id : Int) : Nat → Int
  | 0 => -1
  | j + 1 => if xs.getD j 0 = id then j else plcTo xs id j
theorem plcTo_bd (xs : List Int) (id : Int) : ∀ j, -1 ≤ plcTo xs id j ∧ plcTo xs id j < j
  | 0 => by simp [plcTo]
  | j + 1 => by
    have := plcTo_bd xs id j
    unfold plcTo
    split <;> omega
theorem plcTo_none {xs : List Int} {id : Int} : ∀ j, (∀ i, i < j → xs.getD i 0 ≠ id) → plcTo xs id j = -1
  | 0, _ => rfl
  | j + 1, h => by
    unfold plcTo
    rw [if_neg (h j (Nat.lt_succ_self _))]
    exact plcTo_none j fun i hi => h i (by omega)
theorem plcTo_one {xs : List Int} {id : Int} {k : Nat} (hk : xs.getD k 0 = id) : ∀ j, k < j → (∀ i, i < j → i ≠ k → xs.getD i 0 ≠ id) → plcTo xs id j = k
  | 0, h, _ => absurd h (Nat.not_lt_zero _)
  | j + 1, h, hn => by
    unfold plcTo
    by_cases e : j = k
    · subst e
      rw [if_pos hk]
    · rw [if_neg (hn j (Nat.lt_succ_self _) e)]
      exact plcTo_one hk j (by omega) fun i hi => hn i (by omega)
theorem getD_fst (l : List (Int × Int)) (i : Nat) : (l.map Prod.fst).getD i 0 = (l.getD i (0, 0)).1 := by
  simp only [List.getD_eq_getElem?_getD, List.getElem?_map]
  cases l[i]? <;> rfl
theorem getD_snd (l : List (Int × Int)) (i : Nat) : (l.map Prod.snd).getD i 0 = (l.getD i (0, 0)).2 := by
  simp only [List.getD_eq_getElem?_getD, List.getElem?_map]
  cases l[i]? <;> rfl
theorem placed_plc {l : List (Int × Int)} {id : Int} {k : Nat} {b : Bool} (h : Placed l id k b) (nd : (l.map Prod.fst).Nodup) : plcTo (l.map Prod.fst) id l.length = if b then (k : Int) else -1 := by
  rcases h with ⟨rfl, h1, h2, _⟩ | ⟨rfl, _, h3⟩
  · rw [if_pos rfl]
    refine plcTo_one (by rw [getD_fst]; exact h2) _ h1 fun i hi ne e => ne ?_
    have hi' : i < (l.map Prod.fst).length := by simpa using hi
    have hk' : k < (l.map Prod.fst).length := by simpa using h1
    refine (List.getElem_inj (h₀ := hi') (h₁ := hk') nd).1 ?_
    have e1 : (l.map Prod.fst).getD k 0 = id := by rw [getD_fst]; exact h2
    rw [List.getD_eq_getElem?_getD, List.getElem?_eq_getElem hi'] at e
    rw [List.getD_eq_getElem?_getD, List.getElem?_eq_getElem hk'] at e1
    exact e.trans e1.symm
  · simp only [Bool.false_eq_true, if_false]
    exact plcTo_none _ fun i hi => by rw [getD_fst]; exact h3 i hi
/-- A number and the first j of a list together. -/
def sumTo (xs : List Int) (n0 : Int) : Nat → Int
  | 0 => n0
  | j + 1 => sumTo xs n0 j + xs.getD j 0
theorem sumTo_tot : ∀ (l : List (Int × Int)) (n0 : Int), sumTo (l.map Prod.snd) n0 l.length = n0 + tot l - l.length := by
  have step : ∀ (l : List (Int × Int)) (n0 : Int) (j : Nat), j ≤ l.length → sumTo (l.map Prod.snd) n0 j = n0 + tot (l.take j) - j := by
    intro l n0 j
    induction j with
    | zero => intro _; simp [sumTo, tot]
    | succ j ih =>
      intro hj
      unfold sumTo
      rw [ih (by omega), take_nextD (d := ((0 : Int), (0 : Int))) (by omega), tot_append, getD_snd]
      simp only [tot]
      omega
  intro l n0
  rw [step l n0 l.length (Nat.le_refl _), List.take_length]
theorem sumTo_bd {xs : List Int} {n0 : Int} (hb : ∀ i, i < xs.length → 0 ≤ xs.getD i 0 ∧ xs.getD i 0 ≤ 40) : ∀ j, j ≤ xs.length → n0 ≤ sumTo xs n0 j ∧ sumTo xs n0 j ≤ n0 + 40 * j
  | 0, _ => by simp [sumTo]
  | j + 1, h => by
    have := sumTo_bd (n0 := n0) hb j (by omega)
    have := hb j (by omega)
    unfold sumTo
    omega
theorem docs_del {l : List (Int × Int)} (h : Docs l) (k : Nat) : Docs (delL l k) := by
  unfold delL
  refine ⟨?_, fun p hp => h.2 p ?_⟩
  · have := h.1
    simp
    omega
  · rcases List.mem_append.1 hp with hp | hp
    · exact List.mem_of_mem_take hp
    · exact List.mem_of_mem_drop hp
/-- Between two rounds. -/
structure TS (w : World) (p j : Nat) (K k1 k2 : Nat → Prop) (s : Ar) (h : Int) (l : List (Int × Int)) (v1 v2 : Value) (W : World) : Prop where
  ars : Ars W K p s
  gd : Gd s [h]
  lh : Lh s h l
  docs : Docs l
  ten : l.length ≤ 10
  nd : (l.map Prod.fst).Nodup
  ids : Lst W w.heap.size k1 v1 (l.map Prod.fst)
  lens : Lst W w.heap.size k2 v2 (l.map Prod.snd)
  sub1 : ∀ x, k1 x → K x
  sub2 : ∀ x, k2 x → K x
  kK : ∀ x, x < w.heap.size → K x
  bel : Below w.heap.size w W
  mb : s.made - s.busy ≤ 200 * j
  n : s.n ≤ 200
section
variable {w W W' : World} {p j : Nat} {K k1 k2 : Nat → Prop} {s : Ar} {h : Int} {l : List (Int × Int)} {v1 v2 : Value}
theorem TS.klt (T : TS w p j K k1 k2 s h l v1 v2 W) : ∀ b, K b → b < W.heap.size := T.ars.lt
/-- Memory went on that is none of ours. -/
theorem TS.kept (T : TS w p j K k1 k2 s h l v1 v2 W) (ha : Ars W' K p s) (hk : Kept K W W') : TS w p j K k1 k2 s h l v1 v2 W' :=
  ⟨ha, T.gd, T.lh, T.docs, T.ten, T.nd, T.ids.kept (hk.mono fun x _ hx => T.sub1 x hx), T.lens.kept (hk.mono fun x _ hx => T.sub2 x hx), T.sub1, T.sub2, T.kK, T.bel.trans ((hk.mono fun x _ hx => T.kK x hx).below_of T.bel.size), T.mb, T.n⟩
theorem TS.below (T : TS w p j K k1 k2 s h l v1 v2 W) (hb : Below W.heap.size W W') : TS w p j K k1 k2 s h l v1 v2 W' := T.kept (T.ars.below hb) (Kept.of_below hb K)
theorem TS.alloc (T : TS w p j K k1 k2 s h l v1 v2 W) (o : Obj) : TS w p j K k1 k2 s h l v1 v2 (W.alloc o) := T.below ((Below.refl _ _).alloc (Nat.le_refl _) o)
theorem TS.drewN (T : TS w p j K k1 k2 s h l v1 v2 W) (m : Nat) : TS w p j K k1 k2 s h l v1 v2 (W.drewN m) := T.below ⟨rfl, rfl, rfl, Nat.le_refl _, fun _ _ => rfl⟩
theorem TS.next (T : TS w p j K k1 k2 s h l v1 v2 W) : TS w p (j + 1) K k1 k2 s h l v1 v2 W := { T with mb := by have := T.mb; omega }
theorem TS.allocK (T : TS w p j K k1 k2 s h l v1 v2 W) (o : Obj) : TS w p j (fun x => K x ∨ x = W.heap.size) k1 k2 s h l v1 v2 (W.alloc o) :=
  { T.alloc o with ars := T.ars.allocK o, sub1 := fun x hx => .inl (T.sub1 x hx), sub2 := fun x hx => .inl (T.sub2 x hx), kK := fun x hx => .inl (T.kK x hx) }
theorem TS.good (T : TS w p j K k1 k2 s h l v1 v2 W) (hj : j ≤ 1000) : Snd s := T.gd.snd (by simp) (by have := T.mb; omega)
theorem TS.work (T : TS w p j K k1 k2 s h l v1 v2 W) (m : Nat) (ha : Ars W' K p (s.work m).1) (hk : Kept K W W') : TS w p (j + 1) K k1 k2 (s.work m).1 h l v1 v2 W' := by
  have g := gd_work T.gd m
  have b1 := g.busy_le
  have b2 := T.gd.busy_le
  have w1 := work_made m s
  have w2 := work_nn m s
  have := T.mb
  have := T.n
  exact ⟨ha, g, T.lh.workg T.gd (.inr List.mem_cons_self) m, T.docs, T.ten, T.nd, T.ids.kept (hk.mono fun x _ hx => T.sub1 x hx), T.lens.kept (hk.mono fun x _ hx => T.sub2 x hx), T.sub1, T.sub2, T.kK, T.bel.trans ((hk.mono fun x _ hx => T.kK x hx).below_of T.bel.size), by omega, by omega⟩
/-- Two new lists beside what there is. -/
structure Nw (w : World) (kA kB : Nat → Prop) (a b : Value) (xs ys : List Int) (W : World) : Prop where
  ids : Lst W w.heap.size kA a xs
  lens : Lst W w.heap.size kB b ys
  apart : ∀ x, kA x → ¬ kB x
  lt1 : ∀ x, kA x → x < W.heap.size
  lt2 : ∀ x, kB x → x < W.heap.size
theorem PushedS.fresh {W W2 : World} {B : Nat} {kA : Nat → Prop} {a : Value} {xs : List Int} (h : PushedS W W2 B (fun _ => False) kA a xs) : Below W.heap.size W W2 ∧ ∀ x, kA x → W.heap.size ≤ x ∧ x < W2.heap.size :=
  ⟨⟨h.below.os, h.below.tape, h.below.output, h.size, fun b hb => h.same b hb fun e => e⟩, fun x hx => ⟨by rcases (h.new x hx).2 with e | e; exact e.elim; exact e, (h.new x hx).1⟩⟩
theorem TS.copies {W2 W3 : World} {kA kB : Nat → Prop} {a b : Value} (T : TS w p j K k1 k2 s h l v1 v2 W) (h1 : PushedS W W2 w.heap.size (fun _ => False) kA a ([] ++ l.map Prod.fst)) (h2 : PushedS W2 W3 w.heap.size (fun _ => False) kB b ([] ++ l.map Prod.snd)) :
    TS w p j (fun x => K x ∨ kA x ∨ kB x) k1 k2 s h l v1 v2 W3 ∧ Nw w kA kB a b (l.map Prod.fst) (l.map Prod.snd) W3 ∧ Below W.heap.size W W3 ∧ (∀ x, kA x ∨ kB x → W.heap.size ≤ x) := by
  obtain ⟨b1, n1⟩ := h1.fresh
  obtain ⟨b2, n2⟩ := h2.fresh
  have b3 : Below W.heap.size W W3 := b1.trans (b2.mono b1.size)
  have T3 := T.below b3
  have z1 := b1.size
  have z2 := b2.size
  refine ⟨{ T3 with ars := T.ars.step b3.size (fun x hx _ => b3.block x hx) (fun x hx => ?_), sub1 := fun x hx => .inl (T.sub1 x hx), sub2 := fun x hx => .inl (T.sub2 x hx), kK := fun x hx => .inl (T.kK x hx) }, ⟨Lst.same (xs := l.map Prod.fst) h1.lst fun x hx _ => b2.block x hx, h2.lst, fun x hA hB => ?_, fun x hx => ?_, fun x hx => (n2 x hx).2⟩, b3, fun x hx => ?_⟩
  · rcases hx with hx | hx | hx
    · exact ⟨T3.klt x hx, .inl hx⟩
    · have := n1 x hx; exact ⟨by omega, .inr this.1⟩
    · have := n2 x hx; exact ⟨by omega, .inr (by omega)⟩
  · have := n1 x hA
    have := n2 x hB
    omega
  · have := n1 x hx
    omega
  · rcases hx with hx | hx
    · exact (n1 x hx).1
    · have := (n2 x hx).1
      omega
end
end Go.Proofs.Ytcdmebjggdhhdaa
namespace Go.Proofs.Ytcdmebjggdhhdaa
open Go.ChangeShapes Go.WideShapes Go.ChangeAt Go.RowKit

/-- Behind a change that was not told. -/
structure Chg (w : World) (p : Nat) (k1 k2 : Nat → Prop) (s : Ar) (h : Int) (l : List (Int × Int)) (v1 v2 : Value) (q e1 : Int) (s1 : Ar) (l2 : List (Int × Int)) (K2 kA kB : Nat → Prop) (a b : Value) (W : World) : Prop where
  ars : Ars W K2 p s1
  res : LMade s s1 e1 q (lc l.length) l2 [h]
  docs : Docs l2
  ten : l2.length ≤ 10
  nd : (l2.map Prod.fst).Nodup
  nw : Nw w kA kB a b (l2.map Prod.fst) (l2.map Prod.snd) W
  subA : ∀ x, kA x → K2 x
  subB : ∀ x, kB x → K2 x
  sub1 : ∀ x, k1 x → K2 x
  sub2 : ∀ x, k2 x → K2 x
  kK : ∀ x, x < w.heap.size → K2 x
  ids : Lst W w.heap.size k1 v1 (l.map Prod.fst)
  lens : Lst W w.heap.size k2 v2 (l.map Prod.snd)
  bel : Below w.heap.size w W
/-- Behind a change: it was told, and nothing is new; or the table is what it should be, unless the arena was full. -/
def Told (w : World) (p j : Nat) (k1 k2 : Nat → Prop) (s : Ar) (h : Int) (l : List (Int × Int)) (v1 v2 : Value) (g e f a b : Value) (W : World) : Prop :=
  (∃ (f0 : Int) (K : Nat → Prop), f0 ≠ 0 ∧ f0 ≠ 2 ∧ g = .int .i64 0 ∧ e = .int .i64 f0 ∧ f = .int .i64 f0 ∧ TS w p j K k1 k2 s h l v1 v2 W) ∨
  ∃ (q e1 : Int) (s1 : Ar) (l2 : List (Int × Int)) (K2 kA kB : Nat → Prop), g = .int .i64 q ∧ e = .int .i64 e1 ∧ f = .int .i64 0 ∧ Chg w p k1 k2 s h l v1 v2 q e1 s1 l2 K2 kA kB a b W
section
variable {w W W0 : World} {p j : Nat} {K k1 k2 K2 kA kB : Nat → Prop} {s s1 : Ar} {h q e1 : Int} {l l2 : List (Int × Int)} {v1 v2 a b : Value}
/-- Memory went on that is none of ours. -/
theorem Chg.kept {W' : World} (c : Chg w p k1 k2 s h l v1 v2 q e1 s1 l2 K2 kA kB a b W) (ha : Ars W' K2 p s1) (hk : Kept K2 W W') : Chg w p k1 k2 s h l v1 v2 q e1 s1 l2 K2 kA kB a b W' :=
  { c with
    ars := ha
    nw := ⟨c.nw.ids.kept (hk.mono fun x _ hx => c.subA x hx), c.nw.lens.kept (hk.mono fun x _ hx => c.subB x hx), c.nw.apart, fun x hx => Nat.lt_of_lt_of_le (c.nw.lt1 x hx) hk.size, fun x hx => Nat.lt_of_lt_of_le (c.nw.lt2 x hx) hk.size⟩
    ids := c.ids.kept (hk.mono fun x _ hx => c.sub1 x hx)
    lens := c.lens.kept (hk.mono fun x _ hx => c.sub2 x hx)
    bel := c.bel.trans ((hk.mono fun x _ hx => c.kK x hx).below_of c.bel.size) }
/-- There was no room. -/
theorem Chg.full (c : Chg w p k1 k2 s h l v1 v2 q e1 s1 l2 K2 kA kB a b W) (T : TS w p j K k1 k2 s h l v1 v2 W0) (e : e1 ≠ 0) : q = 0 ∧ e1 = 2 ∧ TS w p j K2 k1 k2 s1 h l v1 v2 W := by
  have q0 := c.res.zero e
  have g := c.res.gd
  have md := c.res.went.md
  have nn := c.res.went.ext.n
  subst q0
  refine ⟨rfl, ?_, c.ars, g.unzero, T.lh.ext c.res.went.ext, T.docs, T.ten, T.nd, c.ids, c.lens, c.sub1, c.sub2, c.kK, c.bel, by have := T.mb; omega, by have := T.n; omega⟩
  rcases c.res.eok with e' | e'
  · exact absurd e' e
  · exact e'.1
/-- What is there behind a change that went well. -/
structure Did (w : World) (p j : Nat) (s1 : Ar) (h q : Int) (l l2 : List (Int × Int)) (K2 kA kB : Nat → Prop) (a b : Value) (W : World) : Prop where
  lh : Lh s1 h l
  gd : Gd s1 (q :: [h])
  mb : s1.made - s1.busy ≤ 1000000000
  snd : Snd s1
  drop : h ≠ 0 → s1.drop h = ((s1.drop h).1, 0)
  same : h = 0 → (s1.drop h).1 = s1
  next : ∀ W', Ars W' K2 p (s1.drop h).1 → Kept K2 W W' → TS w p (j + 1) K2 kA kB (s1.drop h).1 q l2 a b W'
theorem Chg.did (c : Chg w p k1 k2 s h l v1 v2 q 0 s1 l2 K2 kA kB a b W) (T : TS w p j K k1 k2 s h l v1 v2 W0) (hj : j ≤ 1000) : Did w p j s1 h q l l2 K2 kA kB a b W := by
  have g := c.res.gd
  have md := c.res.went.md
  have nn := c.res.went.ext.n
  have mb := T.mb
  have n2 := T.n
  have hr := T.lh.range
  have g2 : Gd (s1.drop h).1 [q] := gd_drop g.swap hr.1 (by omega)
  have hd1 := drop_busy s1 h
  have hd2 := drop_made s1 h
  have hd3 := drop_n s1 h
  refine ⟨T.lh.ext c.res.went.ext, g, by omega, g.snd (by simp) (by omega), fun hh => ?_, fun hh => ?_, fun W' ha hk => ?_⟩
  · unfold Ar.drop
    rw [if_neg (g.live (by omega) (by omega) (by simp))]
  · subst hh
    exact drop0 s1
  · have c' := c.nw
    exact ⟨ha, g2, (c.res.lh rfl).dropg h, c.docs, c.ten, c.nd, c'.ids.kept (hk.mono fun x _ hx => c.subA x hx), c'.lens.kept (hk.mono fun x _ hx => c.subB x hx), c.subA, c.subB, c.kK, c.bel.trans ((hk.mono fun x _ hx => c.kK x hx).below_of c.bel.size), by rw [hd1, hd2]; omega, by rw [hd3]; omega⟩
/-- Two lists have grown beside what there is. -/
theorem Chg.grown {w6 w7 : World} {K6 j1 j2 : Nat → Prop} (T : TS w p j K6 k1 k2 s h l v1 v2 w6) (ha : Ars w7 K6 p s1) (hk : Kept K6 w6 w7) (R : LMade s s1 e1 q (lc l.length) l2 [h])
    (hj : ∀ x, j1 x ∨ j2 x → K6 x ∧ ¬ k1 x ∧ ¬ k2 x) (P : Pair2 w7 w.heap.size j1 j2 kA kB W) (pa : Lst W w.heap.size kA a (l2.map Prod.fst)) (pb : Lst W w.heap.size kB b (l2.map Prod.snd)) (hd : Docs l2) (ht : l2.length ≤ 10) (nd : (l2.map Prod.fst).Nodup) :
    Chg w p k1 k2 s h l v1 v2 q e1 s1 l2 (fun x => K6 x ∨ kA x ∨ kB x) kA kB a b W := by
  have T7 : ∀ x, K6 x → x < w7.heap.size := ha.lt
  refine ⟨ha.step P.size (fun x hx hn => P.same x hx (fun e => hn (hj x (.inl e)).1) fun e => hn (hj x (.inr e)).1) (fun x hx => ?_), R, hd, ht, nd, ⟨pa, pb, P.apart, P.lt1, P.lt2⟩, fun x hx => .inr (.inl hx), fun x hx => .inr (.inr hx), fun x hx => .inl (T.sub1 x hx), fun x hx => .inl (T.sub2 x hx), fun x hx => .inl (T.kK x hx), ?_, ?_, ?_⟩
  · rcases hx with hx | hx | hx
    · exact ⟨Nat.lt_of_lt_of_le (T7 x hx) P.size, .inl hx⟩
    · refine ⟨P.lt1 x hx, ?_⟩
      rcases P.new1 x hx with e | e
      · exact .inl (hj x (.inl e)).1
      · exact .inr e
    · refine ⟨P.lt2 x hx, ?_⟩
      rcases P.new2 x hx with e | e
      · exact .inl (hj x (.inr e)).1
      · exact .inr e
  · exact Lst.same (T.ids.kept (hk.mono fun x _ hx => T.sub1 x hx)) fun x hx hx1 => P.same x hx (fun e => (hj x (.inl e)).2.1 hx1) fun e => (hj x (.inr e)).2.1 hx1
  · exact Lst.same (T.lens.kept (hk.mono fun x _ hx => T.sub2 x hx)) fun x hx hx1 => P.same x hx (fun e => (hj x (.inl e)).2.2 hx1) fun e => (hj x (.inr e)).2.2 hx1
  · exact (T.bel.trans ((hk.mono fun x _ hx => T.kK x hx).below_of T.bel.size)).trans P.below
theorem ints_cell {W : World} {g : Nat} {x : Int} (hg : g < W.heap.size) (hc : W.cell? ⟨g, 0, none⟩ = some (.int .i64 x)) : Ints W (.slice (some ⟨g, 0, none⟩) 1 1) [x] :=
  .inr ⟨g, 0, 1, rfl, hg, Nat.le_refl _, fun j hj => by
    obtain rfl : j = 0 := by simp at hj; omega
    exact hc⟩
theorem Lst.into {W : World} {B : Nat} {k k' : Nat → Prop} {v : Value} {xs : List Int} (hl : Lst W B k v xs) (hk : ∀ x, k x → k' x) : Lst W B k' v xs := by
  obtain ⟨h1, h3⟩ := hl
  exact ⟨h1, fun g e => hk _ (h3 g e)⟩
theorem Snoc.box {B : Nat} {nv : Value} {xs : List Int} {x : Int} {k : Nat → Prop} {W : World} (hs : Snoc B nv xs x none none k W) (ty : TypeId) : Snoc B nv xs x (some (.slice (some ⟨W.heap.size, 0, none⟩) 1 1)) none (fun b => k b ∨ b = W.heap.size) (W.alloc (.cells #[.int .i64 x] ty)) :=
  ⟨Lst.into (Lst.same (v := nv) (xs := xs) hs fun b hb _ => Below.heap_alloc W _ b hb) fun _ => .inl, _, rfl, .inr rfl, by simp, cell_of_row _ _ _ _ _ _ (heap_alloc_new W _)⟩
theorem pair_old {w0 : World} {B : Nat} {kA kB : Nat → Prop} {W : World} (P : Pair2 w0 B (fun _ => False) (fun _ => False) kA kB W) : Below w0.heap.size w0 W :=
  ⟨P.below.os, P.below.tape, P.below.output, P.size, fun b hb => P.same b hb id id⟩
theorem part_one {W : World} {B g n c k : Nat} {K : Nat → Prop} {xs : List Int} (hl : Lst W B K (.slice (some ⟨g, 0, none⟩) n c) xs) (hn : xs.length = n) (hk : k < n) (cc : Nat) (hc : k ≤ cc) : Ints W (.slice (some ⟨g, 0, none⟩) k cc) (xs.take k) := by
  have := hl.part hn 0 k (by omega) (by omega) cc hc
  simpa using this
theorem part_two {W : World} {B g n c k : Nat} {K : Nat → Prop} {xs : List Int} (hl : Lst W B K (.slice (some ⟨g, 0, none⟩) n c) xs) (hn : xs.length = n) (hk : k < n) (hc : n ≤ c) : Ints W (.slice (if c = k + 1 then some ⟨g, 0, none⟩ else some ⟨g, k + 1, none⟩) (n - (k + 1)) (c - (k + 1))) (xs.drop (k + 1)) := by
  split
  · have hz : xs.drop (k + 1) = [] := List.drop_eq_nil_of_le (by omega)
    rw [hz]
    have h0 := hl.part hn 0 0 (by omega) (by omega) (c - (k + 1)) (by omega)
    rw [show n - (k + 1) = 0 by omega]
    simpa using h0
  · have := hl.part hn (k + 1) (n - (k + 1)) (by omega) (by omega) (c - (k + 1)) (by omega)
    rwa [List.take_of_length_le (by simp; omega)] at this
theorem del_fst (l : List (Int × Int)) (k : Nat) : (delL l k).map Prod.fst = (l.map Prod.fst).take k ++ (l.map Prod.fst).drop (k + 1) := by
  unfold delL
  simp
theorem del_snd (l : List (Int × Int)) (k : Nat) : (delL l k).map Prod.snd = (l.map Prod.snd).take k ++ (l.map Prod.snd).drop (k + 1) := by
  unfold delL
  simp
theorem nodup_del {l : List (Int × Int)} (hn : (l.map Prod.fst).Nodup) (k : Nat) : ((delL l k).map Prod.fst).Nodup := by
  rw [del_fst]
  refine List.Sublist.nodup ?_ hn
  have := List.take_append_drop k (l.map Prod.fst)
  conv => rhs; rw [← this]
  exact List.Sublist.append_left (by rw [← List.drop_drop]; exact List.drop_sublist _ _) _
theorem nodup_snoc {l : List (Int × Int)} {id nn : Int} {k : Nat} (hn : (l.map Prod.fst).Nodup) (hp : Placed l id k false) : ((l ++ [(id, nn)]).map Prod.fst).Nodup := by
  rcases hp with ⟨e, _⟩ | ⟨_, _, h3⟩
  · cases e
  rw [List.map_append, List.nodup_append]
  refine ⟨hn, by simp, fun x hx y hy e => ?_⟩
  simp at hy
  obtain ⟨p, hp, rfl⟩ := List.mem_map.1 hx
  obtain ⟨i, hi, rfl⟩ := List.getElem_of_mem hp
  refine h3 i hi ?_
  rw [List.getD_eq_getElem?_getD, List.getElem?_eq_getElem hi]
  exact e.trans hy
theorem pair_refl {w0 : World} {B : Nat} {k1 k2 : Nat → Prop} (ap : ∀ b, k1 b → ¬ k2 b) (l1 : ∀ b, k1 b → b < w0.heap.size) (l2 : ∀ b, k2 b → b < w0.heap.size) : Pair2 w0 B k1 k2 k1 k2 w0 :=
  ⟨ap, l1, l2, fun _ h => .inl h, fun _ h => .inl h, Nat.le_refl _, fun _ _ _ _ => rfl, Below.refl _ _⟩
/-- The end: nothing is had any more. -/
structure Ends (s : Ar) (h : Int) : Prop where
  snd1 : Snd s
  snd2 : Snd (s.drop h).1
  drop : h ≠ 0 → s.drop h = ((s.drop h).1, 0)
  same : h = 0 → (s.drop h).1 = s
  zero : ((s.drop h).1.work 1073741824).1.busy = 0
theorem TS.ends (T : TS w p j K k1 k2 s h l v1 v2 W) (hj : j ≤ 1000) : Ends s h := by
  have mb := T.mb
  have n2 := T.n
  have g := T.gd
  have hr := T.lh.range
  have g2 : Gd (s.drop h).1 [] := gd_drop g hr.1 (by omega)
  have hd1 := drop_busy s h
  have hd2 := drop_made s h
  have hd3 := drop_n s h
  have bl2 := g2.busy_le
  have g3 := gd_work g2 1073741824
  refine ⟨T.good hj, g2.snd (by simp) (by omega), fun hh => ?_, fun hh => ?_, ?_⟩
  · unfold Ar.drop
    rw [if_neg (g.live (by omega) (by omega) (by simp))]
  · subst hh
    exact drop0 s
  · have := g3.busy_le.1
    have h0 := busy_cover g3 (work_none 1073741824 _ g2 (by omega)) (l := []) (fun y hy => by cases hy) (fun x k hx => by cases hx)
    simp at h0
    omega
end
end Go.Proofs.Ytcdmebjggdhhdaa
namespace Go.Proofs.Ytcdmebjggdhhdaa
open Go.RowKit

/-- An element's type: so many cells each. -/
structure Elem (P : Program) (t e : TypeId) (size : Nat) : Prop where
  under : P.underlying t = some (.slice e)
  info : (P.info? e).map (fun i => (i.zero.map fun z => z.cells.size, i.size, decide (i.bytes ≤ 100))) = some (some size, size, true)
  pos : 0 < size
/-- The slice v holds n elements, their cells are cs; its row is one of K, from block B on. -/
def Own (w : World) (B : Nat) (e : TypeId) (size : Nat) (K : Nat → Prop) (v : Value) (n : Nat) (cs : List Value) : Prop := w.ownsRow B e size v n cs ∧ ∀ g, v.ownBlock = some g → K g
/-- The value reads as m elements. -/
def Reads (w : World) (v : Value) (size m : Nat) (cs : List Value) : Prop :=
  cs.length = m * size ∧ ((v = .slice none 0 0 ∧ m = 0) ∨ ∃ b off c, v = .slice (some ⟨b, off, none⟩) m c ∧ b < w.heap.size ∧ m ≤ c ∧ ∀ j u, cs[j]? = some u → w.cell? ⟨b, off + j, none⟩ = some u)
section
variable {P : Program} {w w' : World} {B size n m : Nat} {t e : TypeId} {K K' : Nat → Prop} {v vx : Value} {cs ds : List Value}
theorem Own.nil (w : World) (B : Nat) (e : TypeId) (size : Nat) (K : Nat → Prop) : Own w B e size K (.slice none 0 0) 0 [] := ⟨⟨by simp, .inl ⟨rfl, rfl⟩⟩, fun g h => by cases h⟩
theorem Own.same (h : Own w B e size K v n cs) (hs : ∀ b, b < w.heap.size → K b → w'.heap[b]? = w.heap[b]?) : Own w' B e size K v n cs := by
  obtain ⟨⟨h1, h2⟩, h3⟩ := h
  refine ⟨⟨h1, ?_⟩, h3⟩
  rcases h2 with h2 | ⟨g, cap, cur, rfl, hg, hh, r⟩
  · exact .inl h2
  · exact .inr ⟨g, cap, cur, rfl, hg, (hs g (lt_heap hh) (h3 g rfl)).trans hh, r⟩
theorem Own.kept (h : Own w B e size K v n cs) (hk : Kept K w w') : Own w' B e size K v n cs := h.same fun b hb hK => hk.block b hb hK
theorem Own.into (h : Own w B e size K v n cs) (hk : ∀ x, K x → K' x) : Own w B e size K' v n cs := ⟨h.1, fun g e => hk _ (h.2 g e)⟩
theorem Own.len (h : Own w B e size K v n cs) : cs.length = n * size := h.1.1
theorem Own.slice (h : Own w B e size K v n cs) : ∃ a c, v = .slice a n c := by
  rcases h.1.2 with ⟨rfl, e⟩ | ⟨g, cap, cur, rfl, _⟩
  · exact ⟨none, 0, by rw [e]⟩
  · exact ⟨_, _, rfl⟩
theorem Own.at_ (h : Own w B e size K v n cs) (hn : 0 < n) : ∃ g c, v = .slice (some ⟨g, 0, none⟩) n c ∧ n ≤ c ∧ K g ∧ g < w.heap.size ∧ ∀ j u, cs[j]? = some u → w.cell? ⟨g, j, none⟩ = some u := by
  obtain ⟨⟨h1, h2⟩, h3⟩ := h
  rcases h2 with ⟨rfl, e⟩ | ⟨g, cap, cur, rfl, hg, hh, hl, hm, hs, ht⟩
  · omega
  · refine ⟨g, cap, rfl, hl, h3 g rfl, lt_heap hh, fun j u hj => ?_⟩
    have hj' : j < n * size := by rw [← h1]; exact (List.getElem?_eq_some_iff.1 hj).1
    rw [cell_of_row _ _ _ _ _ _ hh, ← Array.getElem?_toList, ← hj, ← ht, List.getElem?_take, if_pos hj']
theorem Own.reads (h : Own w B e size K v n cs) : Reads w v size n cs := by
  refine ⟨h.len, ?_⟩
  by_cases hn : n = 0
  · rcases h.1.2 with ⟨e, e2⟩ | ⟨g, cap, cur, e, hg, hh, hl, hm, hs, ht⟩
    · exact .inl ⟨e, e2⟩
    · refine .inr ⟨g, 0, cap, e, lt_heap hh, hl, fun j u hj => ?_⟩
      have := (List.getElem?_eq_some_iff.1 hj).1
      rw [h.len, hn] at this
      omega
  · obtain ⟨g, c, e, hc, _, hg, hj⟩ := h.at_ (by omega)
    exact .inr ⟨g, 0, c, e, hg, hc, fun j u hu => by rw [Nat.zero_add]; exact hj j u hu⟩
theorem Reads.kept (h : Reads w v size m cs) (hk : Kept K w w') (hK : ∀ b, v.ownBlock = some b → K b) : Reads w' v size m cs := by
  obtain ⟨h1, h2⟩ := h
  refine ⟨h1, ?_⟩
  rcases h2 with h2 | ⟨b, off, c, e, hb, hc, hj⟩
  · exact .inl h2
  · have kb := hK b (by rw [e]; rfl)
    exact .inr ⟨b, off, c, e, Nat.lt_of_lt_of_le hb hk.size, hc, fun j u hu => (World.cell?_of_block (a := ⟨b, _, none⟩) (hk.block b hb kb)).trans (hj j u hu)⟩
/-- What an append leaves. -/
structure PushG (w w' : World) (B : Nat) (e : TypeId) (size : Nat) (K K' : Nat → Prop) (v' : Value) (n : Nat) (cs : List Value) : Prop where
  own : Own w' B e size K' v' n cs
  grew : Grew w w' B K K'
theorem run_append_gen (E : Elem P t e size) (hO : Own w B e size K v n cs) (hlt : ∀ b, K b → b < w.heap.size) (hB : B ≤ w.heap.size) (hR : Reads w vx size m ds) (h1 : ∀ u ∈ ds, u.oneCell' = true) (hlen : n + m ≤ 1000000000) (ty : TypeId) :
    ∃ v' w' K', (Builtin.append_ #[t, t] ty #[v, vx]).run P w = .ok v' w' ∧ PushG w w' B e size K K' v' (n + m) (cs ++ ds) := by
  obtain ⟨hu, hinf, hpos⟩ := E
  obtain ⟨i, hi, hz⟩ := Option.map_eq_some_iff.1 hinf
  injection hz with hz0 hz
  injection hz with hz1 hz2
  obtain ⟨z, hz, hzc⟩ := Option.map_eq_some_iff.1 hz0
  have hby : i.bytes ≤ 100 := by simpa using hz2
  obtain ⟨hl, hR⟩ := hR
  rcases hR with ⟨rfl, rfl⟩ | ⟨b, off, c, rfl, hb, hc, hj⟩
  · obtain rfl : ds = [] := List.length_eq_zero_iff.1 (by omega)
    refine ⟨v, w, K, run_append_owned_none w B t ty e i size hu hi v n cs hO.1, by simpa using hO, fun b hb => hb, fun b hb => ⟨hlt b hb, .inl hb⟩, Nat.le_refl _, fun _ _ _ => rfl, Below.refl _ _⟩
  · have hvK : ∀ g, v.ownBlock = some g → K g := hO.2
    obtain ⟨v', w', hr, r1, r2, _, r4⟩ := run_append_own_at w B t ty e i z size i.bytes hu hi hz hz1 rfl hzc hpos v n cs hO.1 ⟨b, off, none⟩ m c ds hl (fun j u hu => by rw [Addr.add_lit]; exact hj j u hu) h1 (by unfold maxLen; omega)
      (by have : (n + m) * i.bytes ≤ 1000000000 * 100 := Nat.mul_le_mul hlen hby
          omega) hB
    have hv' : ∀ g, v'.ownBlock = some g → g < w'.heap.size := by
      intro g hg
      rcases r1.2 with ⟨rfl, _⟩ | ⟨g', cap, cur, rfl, _, hh, _⟩
      · cases hg
      · cases hg; exact lt_heap hh
    refine ⟨v', w', fun b => K b ∨ v'.ownBlock = some b, hr, ⟨r1, fun g hg => .inr hg⟩, fun b hb => .inl hb, fun b hb => ?_, r2.size, fun b hb hn => r2.block b hb fun e => hn (hvK b e.symm), ?_⟩
    · rcases hb with hb | hb
      · exact ⟨Nat.lt_of_lt_of_le (hlt b hb) r2.size, .inl hb⟩
      · refine ⟨hv' b hb, ?_⟩
        rcases r4 with e | e
        · rw [e] at hb; exact .inl (hvK b hb)
        · rw [e] at hb; injection hb with hb; exact .inr (by omega)
    · refine (Below.refl _ _).grown r2 hB fun k e => ?_
      rcases hO.1.2 with ⟨rfl, _⟩ | ⟨g', cap, cur, rfl, hg, _⟩
      · cases e
      · cases e; exact hg
theorem wp_append_gen (E : Elem P t e size) {o : Oper} {a : Act} {Kc : Act → World → Prop} {Q : Exit → Act → World → Prop} (hO : Own w B e size K v n cs) (hlt : ∀ b, K b → b < w.heap.size) (hB : B ≤ w.heap.size) (hR : Reads w vx size m ds) (h1 : ∀ u ∈ ds, u.oneCell' = true) (hlen : n + m ≤ 1000000000) (s x : Operand)
    (ho : o.op = Op.call { callee := Callee.builtin Builtin.append, args := #[s, x], argTypes := #[t, t] }) (hs : a.eval s = v) (hx : a.eval x = vx) (h : ∀ v' w' K', PushG w w' B e size K K' v' (n + m) (cs ++ ds) → Kc (a.put o.dst v') w') : o.wp P a w Kc Q := by
  obtain ⟨v', w', K', hr, hp⟩ := run_append_gen E hO hlt hB hR h1 hlen o.type
  unfold Oper.wp execOp
  simp only [ho, resolve, invoke, builtin, Sem.run_bind, Sem.run_pure, Result.andThen_ok, List.map_toArray, List.map_cons, List.map_nil, hs, hx, hr]
  exact h v' w' K' hp
theorem wpList_append_gen (E : Elem P t e size) {ops : Array Oper} {rest : List Oper} {o : Oper} {a : Act} {Q : Exit → Act → World → Prop} (hO : Own w B e size K v n cs) (hlt : ∀ b, K b → b < w.heap.size) (hB : B ≤ w.heap.size) (hR : Reads w vx size m ds) (h1 : ∀ u ∈ ds, u.oneCell' = true) (hlen : n + m ≤ 1000000000) (hgd : o.guard = none) (s x : Operand)
    (ho : o.op = Op.call { callee := Callee.builtin Builtin.append, args := #[s, x], argTypes := #[t, t] }) (hs : a.eval s = v) (hx : a.eval x = vx) (h : ∀ v' w' K', PushG w w' B e size K K' v' (n + m) (cs ++ ds) → wpList P ops Q rest (a.put o.dst v') w') : wpList P ops Q (o :: rest) a w :=
  wpList_plain hgd fun _ hK => wp_append_gen E hO hlt hB hR h1 hlen s x ho hs hx fun v' w' K' hp => hK _ _ (h v' w' K' hp)
/-- A box in which one element stands. -/
theorem reads_box {g : Nat} {x : List Value} (hg : g < w.heap.size) (hx : x.length = size) (hc : ∀ j u, x[j]? = some u → w.cell? ⟨g, j, none⟩ = some u) : Reads w (.slice (some ⟨g, 0, none⟩) 1 1) size 1 x :=
  ⟨by omega, .inr ⟨g, 0, 1, rfl, hg, Nat.le_refl _, fun j u hu => by rw [Nat.zero_add]; exact hc j u hu⟩⟩
theorem reads_head {g c k : Nat} (h : Reads w (.slice (some ⟨g, 0, none⟩) n c) size n cs) (hk : k ≤ n) (cc : Nat) (hc : k ≤ cc) : Reads w (.slice (some ⟨g, 0, none⟩) k cc) size k (cs.take (k * size)) := by
  obtain ⟨h1, h2⟩ := h
  rcases h2 with ⟨e, _⟩ | ⟨b, off, c', e, hb, hc', hj⟩
  · cases e
  · cases e
    refine ⟨by rw [List.length_take, h1]; exact Nat.min_eq_left (Nat.mul_le_mul_right _ hk), .inr ⟨_, _, _, rfl, hb, hc, fun j u hu => ?_⟩⟩
    rw [List.getElem?_take] at hu
    split at hu
    · exact hj j u hu
    · cases hu
theorem reads_tail {g c k : Nat} (h : Reads w (.slice (some ⟨g, 0, none⟩) n c) size n cs) (hk : k ≤ n) (hn : n ≤ c) {o : Option Addr} (ho : (if c = k then (some ⟨g, 0, none⟩ : Option Addr) else some ⟨g, k * size, none⟩) = o) : Reads w (.slice o (n - k) (c - k)) size (n - k) (cs.drop (k * size)) := by
  obtain ⟨h1, h2⟩ := h
  rcases h2 with ⟨e, _⟩ | ⟨b, off, c', e, hb, hc', hj⟩
  · cases e
  · cases e
    refine ⟨by rw [List.length_drop, h1, Nat.sub_mul], ?_⟩
    subst ho
    split
    · refine .inr ⟨_, _, _, rfl, hb, by omega, fun j u hu => ?_⟩
      have : cs.drop (k * size) = [] := List.drop_eq_nil_of_le (by rw [h1]; exact Nat.mul_le_mul_right _ (by omega))
      rw [this] at hu
      cases hu
    · refine .inr ⟨_, _, _, rfl, hb, by omega, fun j u hu => ?_⟩
      rw [List.getElem?_drop] at hu
      have := hj (k * size + j) u hu
      rwa [Nat.zero_add] at this
end
/-- One more element is put behind a list. -/
def SnocG (B : Nat) (e : TypeId) (size n : Nat) (cs : List Value) (nv : Value) (x : List Value) : Option Value → Option Value → (Nat → Prop) → World → Prop
  | none, _, k, w => Own w B e size k nv n cs
  | some v, none, k, w => Own w B e size k nv n cs ∧ ∃ g, v = .slice (some ⟨g, 0, none⟩) 1 1 ∧ k g ∧ g < w.heap.size ∧ ∀ j u, x[j]? = some u → w.cell? ⟨g, j, none⟩ = some u
  | some _, some v', k, w => Own w B e size k v' (n + 1) (cs ++ x)
theorem lt_still {w w' : World} {g : Nat} (lg : g < w.heap.size) (h : w'.heap[g]? = w.heap[g]?) : g < w'.heap.size := Nat.lt_of_not_le fun hg => by
  rw [Array.getElem?_eq_none hg, Array.getElem?_eq_getElem lg] at h
  cases h
theorem SnocG.same {B : Nat} {e : TypeId} {size n : Nat} {cs : List Value} {nv : Value} {x : List Value} : ∀ (a b : Option Value) (k : Nat → Prop) (w w' : World), SnocG B e size n cs nv x a b k w → (∀ b, k b → b < w.heap.size) → (∀ b, b < w.heap.size → k b → w'.heap[b]? = w.heap[b]?) → SnocG B e size n cs nv x a b k w'
  | none, _, _, _, _, h, _, hs => Own.same h hs
  | some _, none, _, _, _, ⟨h, g, e, kg, lg, c⟩, _, hs => ⟨Own.same h hs, g, e, kg, lt_still lg (hs g lg kg), fun j u hu => (World.cell?_of_block (a := ⟨g, j, none⟩) (hs g lg kg)).trans (c j u hu)⟩
  | some _, some _, _, _, _, h, _, hs => Own.same (n := n + 1) (cs := cs ++ x) h hs
theorem SnocG.box {B : Nat} {e : TypeId} {size n : Nat} {cs : List Value} {nv : Value} {x : List Value} {k : Nat → Prop} {W : World} (hs : SnocG B e size n cs nv x none none k W) (xa : Array Value) (hx : xa.toList = x) (ty : TypeId) : SnocG B e size n cs nv x (some (.slice (some ⟨W.heap.size, 0, none⟩) 1 1)) none (fun b => k b ∨ b = W.heap.size) (W.alloc (.cells xa ty)) :=
  ⟨Own.into (Own.same (v := nv) (n := n) (cs := cs) hs fun b hb _ => Below.heap_alloc W _ b hb) fun _ => .inl, _, rfl, .inr rfl, by simp, fun j u hu => by
    rw [cell_of_row _ _ _ _ _ _ (heap_alloc_new W _), ← Array.getElem?_toList, hx]; exact hu⟩
/-- Two parts are put behind one another. -/
def JoinG (B : Nat) (e : TypeId) (size n1 : Nat) (xs : List Value) (n2 : Nat) (ys : List Value) : Option Value → Option Value → (Nat → Prop) → World → Prop
  | none, _, _, _ => True
  | some v, none, k, w => Own w B e size k v n1 xs
  | some _, some v', k, w => Own w B e size k v' (n1 + n2) (xs ++ ys)
theorem JoinG.same {B : Nat} {e : TypeId} {size n1 n2 : Nat} {xs ys : List Value} : ∀ (a b : Option Value) (k : Nat → Prop) (w w' : World), JoinG B e size n1 xs n2 ys a b k w → (∀ b, k b → b < w.heap.size) → (∀ b, b < w.heap.size → k b → w'.heap[b]? = w.heap[b]?) → JoinG B e size n1 xs n2 ys a b k w'
  | none, _, _, _, _, _, _, _ => trivial
  | some v, none, _, _, _, h, _, hs => Own.same (v := v) (n := n1) (cs := xs) h hs
  | some _, some v, _, _, _, h, _, hs => Own.same (v := v) (n := n1 + n2) (cs := xs ++ ys) h hs
end Go.Proofs.Ytcdmebjggdhhdaa
namespace Go.Proofs.Ytcdmebjggdhhdaa
open Go.RowKit
theorem ints_one (W : World) (h : Int) : Ints (W.alloc (.cells #[.int .i64 h] 3)) (.slice (some ⟨W.heap.size, 0, none⟩) 1 1) [h] :=
  .inr ⟨_, 0, _, rfl, by simp, Nat.le_refl _, fun j hj => by
    have hj : j < 1 := hj
    obtain rfl : j = 0 := by omega
    exact cell_new rfl rfl⟩
theorem ints_two (W : World) (g h : Int) : Ints (W.alloc (.cells #[.int .i64 g, .int .i64 h] 3)) (.slice (some ⟨W.heap.size, 0, none⟩) 2 2) [g, h] :=
  .inr ⟨_, 0, _, rfl, by simp, Nat.le_refl _, fun j hj => by
    have hj : j < 2 := hj
    have : j = 0 ∨ j = 1 := by omega
    rcases this with rfl | rfl <;> exact cell_new rfl rfl⟩
section
variable {w : World} {K : Nat → Prop} {p : Nat} {s : Ar} {R : List Int} {v : Value}
theorem reach_len {n : Nat} (ha : Ars w K p s) (hf : s.Fit) (hv : Ints w v R) (hl : R.length ≤ 100) (h : ∀ zs, Asc zs → (∀ x, x ∈ zs ↔ Rch s R x) → zs.length = n) :
    Calls Try.prog 16 #[.pointer (some ⟨p, 0, none⟩), v] w fun e w' => (∃ a c, e = .returned (.slice a n c)) ∧ Below w.heap.size w w' := by
  refine (reach_is ha hf hv (by omega)).mono ?_
  rintro e w' ⟨v', ys, Ko, rfl, hL, _, hasc, hm, hb⟩
  obtain ⟨a, c, rfl⟩ := hL.slice
  exact ⟨⟨a, c, by rw [h ys hasc hm]⟩, hb⟩
theorem reach_most {n : Nat} (ha : Ars w K p s) (hf : s.Fit) (hv : Ints w v R) (hl : R.length ≤ 100) (h : ∀ zs, Asc zs → (∀ x, x ∈ zs ↔ Rch s R x) → zs.length ≤ n) :
    Calls Try.prog 16 #[.pointer (some ⟨p, 0, none⟩), v] w fun e w' => (∃ a c m, m ≤ n ∧ e = .returned (.slice a m c)) ∧ Below w.heap.size w w' := by
  refine (reach_is ha hf hv (by omega)).mono ?_
  rintro e w' ⟨v', ys, Ko, rfl, hL, _, hasc, hm, hb⟩
  obtain ⟨a, c, rfl⟩ := hL.slice
  exact ⟨⟨a, c, _, h ys hasc hm, rfl⟩, hb⟩
end
end Go.Proofs.Ytcdmebjggdhhdaa
namespace Go.Proofs.Ytcdmebjggdhhdaa
open Go.RowKit
section
variable {K : Nat → Prop} {p : Nat} {s : Ar} {w : World}
set_option maxHeartbeats 2000000 in
theorem deep_zero (hf : s.Fit) (ha : Ars w K p s) : Calls Try.prog 13 #[.pointer (some ⟨p, 0, none⟩), .int .i64 0] w fun e w' => e = .returned (.int .i64 0) ∧ Below w.heap.size w w' := by
  have hz : s.get 0 = (Nd.zero, false) := by unfold Ar.get; rw [if_pos (.inl (by decide))]
  have H := Lib.hid (get_is 0 hz ha hf)
  clear ha hz hf
  go_enter Try.func13, Try.ntmps13
  go_wp2_with fail
  refine H.out.mono ?_
  rintro e w1 ⟨rfl, ha, hk⟩
  go_wp2_with fail
  go_ret
  exact ⟨rfl, hk.alloc hk.size _⟩
def dpt (d0 d1 : Nat) (j : Nat) : Nat := if j = 0 then 0 else if j = 1 then d0 else max d0 d1
set_option maxHeartbeats 4000000 in
theorem deep_node {h : Int} {x : Nd} {d0 d1 : Nat} (hg : s.get h = (x, true)) (h2 : x.k2 = 0) (h3 : x.k3 = 0) (hd0 : d0 ≤ 1000) (hd1 : d1 ≤ 1000)
    (H0 : ∀ W, Ars W K p s → Calls Try.prog 13 #[.pointer (some ⟨p, 0, none⟩), .int .i64 x.k0] W fun e w' => e = .returned (.int .i64 d0) ∧ Below W.heap.size W w')
    (H1 : ∀ W, Ars W K p s → Calls Try.prog 13 #[.pointer (some ⟨p, 0, none⟩), .int .i64 x.k1] W fun e w' => e = .returned (.int .i64 d1) ∧ Below W.heap.size W w')
    (hf : s.Fit) (ha : Ars w K p s) : Calls Try.prog 13 #[.pointer (some ⟨p, 0, none⟩), .int .i64 h] w fun e w' => e = .returned (.int .i64 (1 + max d0 d1 : Nat)) ∧ Below w.heap.size w w' := by
  have H := Lib.hid (get_is h hg ha hf)
  have HZ := fun W (ha : Ars W K p s) => Lib.hid (deep_zero hf ha)
  have G0 := fun W ha => Lib.hid (H0 W ha)
  have G1 := fun W ha => Lib.hid (H1 W ha)
  have b0 : (d0 : Int) ≤ 1000 := by omega
  have b1 : (d1 : Int) ≤ 1000 := by omega
  clear hg H0 H1 hf ha
  obtain ⟨tag, k0, k1, k2, k3, A, B⟩ := x
  dsimp only at h2 h3 H G0 G1
  subst h2 h3
  go_enter Try.func13, Try.ntmps13
  go_wp2_with fail
  refine H.out.mono ?_
  rintro e w1 ⟨rfl, ha, hk⟩
  have A1 := Lib.hid (ha.alloc (.cells #[.int .i64 tag, .int .i64 k0, .int .i64 k1, .int .i64 0, .int .i64 0, .int .u64 A, .int .u64 B] 64))
  have B1 := Lib.hid (hk.alloc hk.size (.cells #[.int .i64 tag, .int .i64 k0, .int .i64 k1, .int .i64 0, .int .i64 0, .int .u64 A, .int .u64 B] 64))
  clear ha hk H
  go_wp2_with fail
  go_loopw [7, 20] (fun d j W => ∃ k : Nat, j = .int .i64 (k : Int) ∧ k ≤ 4 ∧ (∃ D : Nat, d = .int .i64 (D : Int) ∧ Hid (D = dpt d0 d1 k)) ∧ Ars W K p s ∧ Below w.heap.size w W) (fun _ j _ => 4 - (intOf j).toNat)
  case atStart => exact ⟨0, rfl, by omega, ⟨0, rfl, rfl⟩, A1.out, B1.out⟩
  case round =>
    obtain ⟨k, rfl, k4, ⟨X, rfl, hD⟩, ha, hb⟩ := hrel
    have A2 := Lib.hid ha
    have B2 := Lib.hid hb
    clear ha hb A1 B1
    have hcase : k = 0 ∨ k = 1 ∨ k = 2 ∨ k = 3 ∨ k = 4 := by omega
    rcases hcase with rfl | rfl | rfl | rfl | rfl
    · have hix := ix4_0 (.int .i64 k0) (.int .i64 k1) (.int .i64 0) (.int .i64 0)
      have HC := G0 wr.drew A2.out.drew
      have HC' := G0 wr A2.out
      have hX : X = 0 := hD.out
      have eZ : dpt d0 d1 (0 + 1) = d0 := rfl
      obtain ⟨Y, hY⟩ : ∃ Y : Nat, Y = d0 := ⟨_, rfl⟩
      have HXYZ := Lib.hid (show dpt d0 d1 (0 + 1) = max X Y by rw [hX, hY]; exact eZ.trans (by omega))
      have hXs : (X : Int) ≤ 1000 := by omega
      have hYs : (Y : Int) ≤ 1000 := by omega
      have HC2 := Lib.hid (show Calls Try.prog 13 _ wr fun e w' => e = .returned (.int .i64 (Y : Int)) ∧ Below wr.heap.size wr w' from by rw [hY]; exact HC'.out)
      clear eZ hX hY HC HC' hD
      go_wp2_with fail
      refine HC2.out.mono ?_
      rintro e w2 ⟨rfl, hb⟩
      have A3 := Lib.hid (A2.out.below hb)
      have B3 := Lib.hid (B2.out.trans (hb.mono B2.out.size))
      clear hb HC2
      rcases Nat.lt_trichotomy X Y with c | c | c
      · have c2 : (X : Int) < (Y : Int) := by omega
        have hmx : max (X : Int) (Y : Int) = (Y : Int) := by omega
        have hz2 := Lib.hid (show Y = dpt d0 d1 (0 + 1) by rw [HXYZ.out]; omega)
        clear HXYZ
        go_wp2_with fail
        go_roundw
        case rel => exact ⟨0 + 1, by first | rfl | go_num, by omega, ⟨_, by first | rfl | rw [hmx], hz2⟩, A3.out, B3.out⟩
        case measure => simp [intOf]
      · subst c
        have hmx : max (X : Int) (X : Int) = (X : Int) := by omega
        have hz2 := Lib.hid (show X = dpt d0 d1 (0 + 1) by rw [HXYZ.out]; omega)
        clear HXYZ
        go_wp2_with fail
        go_roundw
        case rel => exact ⟨0 + 1, by first | rfl | go_num, by omega, ⟨_, by first | rfl | rw [hmx], hz2⟩, A3.out, B3.out⟩
        case measure => simp [intOf]
      · have c2 : (Y : Int) < (X : Int) := by omega
        have hmx : max (X : Int) (Y : Int) = (X : Int) := by omega
        have hz2 := Lib.hid (show X = dpt d0 d1 (0 + 1) by rw [HXYZ.out]; omega)
        clear HXYZ
        go_wp2_with fail
        go_roundw
        case rel => exact ⟨0 + 1, by first | rfl | go_num, by omega, ⟨_, by first | rfl | rw [hmx], hz2⟩, A3.out, B3.out⟩
        case measure => simp [intOf]
    · have hix := ix4_1 (.int .i64 k0) (.int .i64 k1) (.int .i64 0) (.int .i64 0)
      have HC := G1 wr.drew A2.out.drew
      have HC' := G1 wr A2.out
      have hX : X = d0 := hD.out
      have eZ : dpt d0 d1 (1 + 1) = max d0 d1 := rfl
      obtain ⟨Y, hY⟩ : ∃ Y : Nat, Y = d1 := ⟨_, rfl⟩
      have HXYZ := Lib.hid (show dpt d0 d1 (1 + 1) = max X Y by rw [hX, hY]; exact eZ.trans (by omega))
      have hXs : (X : Int) ≤ 1000 := by omega
      have hYs : (Y : Int) ≤ 1000 := by omega
      have HC2 := Lib.hid (show Calls Try.prog 13 _ wr fun e w' => e = .returned (.int .i64 (Y : Int)) ∧ Below wr.heap.size wr w' from by rw [hY]; exact HC'.out)
      clear eZ hX hY HC HC' hD
      go_wp2_with fail
      refine HC2.out.mono ?_
      rintro e w2 ⟨rfl, hb⟩
      have A3 := Lib.hid (A2.out.below hb)
      have B3 := Lib.hid (B2.out.trans (hb.mono B2.out.size))
      clear hb HC2
      rcases Nat.lt_trichotomy X Y with c | c | c
      · have c2 : (X : Int) < (Y : Int) := by omega
        have hmx : max (X : Int) (Y : Int) = (Y : Int) := by omega
        have hz2 := Lib.hid (show Y = dpt d0 d1 (1 + 1) by rw [HXYZ.out]; omega)
        clear HXYZ
        go_wp2_with fail
        go_roundw
        case rel => exact ⟨1 + 1, by first | rfl | go_num, by omega, ⟨_, by first | rfl | rw [hmx], hz2⟩, A3.out, B3.out⟩
        case measure => simp [intOf]
      · subst c
        have hmx : max (X : Int) (X : Int) = (X : Int) := by omega
        have hz2 := Lib.hid (show X = dpt d0 d1 (1 + 1) by rw [HXYZ.out]; omega)
        clear HXYZ
        go_wp2_with fail
        go_roundw
        case rel => exact ⟨1 + 1, by first | rfl | go_num, by omega, ⟨_, by first | rfl | rw [hmx], hz2⟩, A3.out, B3.out⟩
        case measure => simp [intOf]
      · have c2 : (Y : Int) < (X : Int) := by omega
        have hmx : max (X : Int) (Y : Int) = (X : Int) := by omega
        have hz2 := Lib.hid (show X = dpt d0 d1 (1 + 1) by rw [HXYZ.out]; omega)
        clear HXYZ
        go_wp2_with fail
        go_roundw
        case rel => exact ⟨1 + 1, by first | rfl | go_num, by omega, ⟨_, by first | rfl | rw [hmx], hz2⟩, A3.out, B3.out⟩
        case measure => simp [intOf]
    · have hix := ix4_2 (.int .i64 k0) (.int .i64 k1) (.int .i64 0) (.int .i64 0)
      have HC := HZ wr.drew A2.out.drew
      have HC' := HZ wr A2.out
      have hX : X = max d0 d1 := hD.out
      have eZ : dpt d0 d1 (2 + 1) = max d0 d1 := rfl
      obtain ⟨Y, hY⟩ : ∃ Y : Nat, Y = 0 := ⟨_, rfl⟩
      have HXYZ := Lib.hid (show dpt d0 d1 (2 + 1) = max X Y by rw [hX, hY]; exact eZ.trans (by omega))
      have hXs : (X : Int) ≤ 1000 := by omega
      have hYs : (Y : Int) ≤ 1000 := by omega
      have HC2 := Lib.hid (show Calls Try.prog 13 _ wr fun e w' => e = .returned (.int .i64 (Y : Int)) ∧ Below wr.heap.size wr w' from by rw [hY]; exact HC'.out)
      clear eZ hX hY HC HC' hD
      go_wp2_with fail
      refine HC2.out.mono ?_
      rintro e w2 ⟨rfl, hb⟩
      have A3 := Lib.hid (A2.out.below hb)
      have B3 := Lib.hid (B2.out.trans (hb.mono B2.out.size))
      clear hb HC2
      rcases Nat.lt_trichotomy X Y with c | c | c
      · have c2 : (X : Int) < (Y : Int) := by omega
        have hmx : max (X : Int) (Y : Int) = (Y : Int) := by omega
        have hz2 := Lib.hid (show Y = dpt d0 d1 (2 + 1) by rw [HXYZ.out]; omega)
        clear HXYZ
        go_wp2_with fail
        go_roundw
        case rel => exact ⟨2 + 1, by first | rfl | go_num, by omega, ⟨_, by first | rfl | rw [hmx], hz2⟩, A3.out, B3.out⟩
        case measure => simp [intOf]
      · subst c
        have hmx : max (X : Int) (X : Int) = (X : Int) := by omega
        have hz2 := Lib.hid (show X = dpt d0 d1 (2 + 1) by rw [HXYZ.out]; omega)
        clear HXYZ
        go_wp2_with fail
        go_roundw
        case rel => exact ⟨2 + 1, by first | rfl | go_num, by omega, ⟨_, by first | rfl | rw [hmx], hz2⟩, A3.out, B3.out⟩
        case measure => simp [intOf]
      · have c2 : (Y : Int) < (X : Int) := by omega
        have hmx : max (X : Int) (Y : Int) = (X : Int) := by omega
        have hz2 := Lib.hid (show X = dpt d0 d1 (2 + 1) by rw [HXYZ.out]; omega)
        clear HXYZ
        go_wp2_with fail
        go_roundw
        case rel => exact ⟨2 + 1, by first | rfl | go_num, by omega, ⟨_, by first | rfl | rw [hmx], hz2⟩, A3.out, B3.out⟩
        case measure => simp [intOf]
    · have hix := ix4_3 (.int .i64 k0) (.int .i64 k1) (.int .i64 0) (.int .i64 0)
      have HC := HZ wr.drew A2.out.drew
      have HC' := HZ wr A2.out
      have hX : X = max d0 d1 := hD.out
      have eZ : dpt d0 d1 (3 + 1) = max d0 d1 := rfl
      obtain ⟨Y, hY⟩ : ∃ Y : Nat, Y = 0 := ⟨_, rfl⟩
      have HXYZ := Lib.hid (show dpt d0 d1 (3 + 1) = max X Y by rw [hX, hY]; exact eZ.trans (by omega))
      have hXs : (X : Int) ≤ 1000 := by omega
      have hYs : (Y : Int) ≤ 1000 := by omega
      have HC2 := Lib.hid (show Calls Try.prog 13 _ wr fun e w' => e = .returned (.int .i64 (Y : Int)) ∧ Below wr.heap.size wr w' from by rw [hY]; exact HC'.out)
      clear eZ hX hY HC HC' hD
      go_wp2_with fail
      refine HC2.out.mono ?_
      rintro e w2 ⟨rfl, hb⟩
      have A3 := Lib.hid (A2.out.below hb)
      have B3 := Lib.hid (B2.out.trans (hb.mono B2.out.size))
      clear hb HC2
      rcases Nat.lt_trichotomy X Y with c | c | c
      · have c2 : (X : Int) < (Y : Int) := by omega
        have hmx : max (X : Int) (Y : Int) = (Y : Int) := by omega
        have hz2 := Lib.hid (show Y = dpt d0 d1 (3 + 1) by rw [HXYZ.out]; omega)
        clear HXYZ
        go_wp2_with fail
        go_roundw
        case rel => exact ⟨3 + 1, by first | rfl | go_num, by omega, ⟨_, by first | rfl | rw [hmx], hz2⟩, A3.out, B3.out⟩
        case measure => simp [intOf]
      · subst c
        have hmx : max (X : Int) (X : Int) = (X : Int) := by omega
        have hz2 := Lib.hid (show X = dpt d0 d1 (3 + 1) by rw [HXYZ.out]; omega)
        clear HXYZ
        go_wp2_with fail
        go_roundw
        case rel => exact ⟨3 + 1, by first | rfl | go_num, by omega, ⟨_, by first | rfl | rw [hmx], hz2⟩, A3.out, B3.out⟩
        case measure => simp [intOf]
      · have c2 : (Y : Int) < (X : Int) := by omega
        have hmx : max (X : Int) (Y : Int) = (X : Int) := by omega
        have hz2 := Lib.hid (show X = dpt d0 d1 (3 + 1) by rw [HXYZ.out]; omega)
        clear HXYZ
        go_wp2_with fail
        go_roundw
        case rel => exact ⟨3 + 1, by first | rfl | go_num, by omega, ⟨_, by first | rfl | rw [hmx], hz2⟩, A3.out, B3.out⟩
        case measure => simp [intOf]
    · have hX : X = max d0 d1 := hD.out
      have HX := Lib.hid hX
      have hM2 : (X : Int) ≤ 1000 := by omega
      clear hX
      go_wp2_with fail
      go_ret
      exact ⟨by rw [← HX.out]; first | rfl | (push_cast; rw [Int.add_comm]; rfl), B2.out⟩
theorem deep_rep (hf : s.Fit) : ∀ (t : Tr) (h : Int), Rep s h t → t.high ≤ 400 → ∀ W, Ars W K p s → Calls Try.prog 13 #[.pointer (some ⟨p, 0, none⟩), .int .i64 h] W fun e w' => e = .returned (.int .i64 t.high) ∧ Below W.heap.size W w'
  | .nil, h, r, _, W, ha => by
    obtain rfl : h = 0 := r
    exact deep_zero hf ha
  | .item a b, h, r, hh, W, ha => by
    obtain ⟨r1, r2, r3, r4⟩ := r
    have hg : s.get h = (⟨4, 0, 0, 0, 0, a, b⟩, true) := by
      unfold Ar.get
      rw [if_neg (by rw [r3]; simp; omega), r4]
    exact deep_node (d0 := 0) (d1 := 0) hg rfl rfl (by omega) (by omega) (fun W ha => deep_zero hf ha) (fun W ha => deep_zero hf ha) hf ha
  | .join a b, h, r, hh, W, ha => by
    obtain ⟨r1, r2, r3, k0, k1, r4, r5, r6⟩ := r
    have e : (Tr.join a b).high = 1 + max a.high b.high := rfl
    have hg : s.get h = (⟨5, k0, k1, 0, 0, ((a.len + b.len : Nat) : Int), 0⟩, true) := by
      unfold Ar.get
      rw [if_neg (by rw [r3]; simp; omega), r4]
    rw [e] at hh ⊢
    exact deep_node (d0 := a.high) (d1 := b.high) hg rfl rfl (by omega) (by omega) (fun W ha => deep_rep hf a k0 r5 (by omega) W ha) (fun W ha => deep_rep hf b k1 r6 (by omega) W ha) hf ha
theorem deep_list {h : Int} {l : List (Int × Int)} (hl : l.length ≤ 70000) (hf : s.Fit) (x : Lh s h l) (ha : Ars w K p s) :
    Calls Try.prog 13 #[.pointer (some ⟨p, 0, none⟩), .int .i64 h] w fun e w' => (∃ d : Nat, d ≤ 2 * bl l.length ∧ e = .returned (.int .i64 d)) ∧ Below w.heap.size w w' := by
  obtain ⟨t, r, f, rfl⟩ := x
  rw [Tr.len_list] at hl
  have h1 : t.high ≤ 40 ∧ t.high ≤ 2 * bl t.len := by
    rcases f with rfl | f
    · exact ⟨Nat.zero_le _, Nat.zero_le _⟩
    · exact ⟨f.high40 (by omega), f.deep⟩
  refine (deep_rep hf t h r (by omega) w ha).mono ?_
  rintro o w' ⟨rfl, hb⟩
  exact ⟨⟨t.high, by rw [Tr.len_list]; exact h1.2, rfl⟩, hb⟩
end
set_option maxHeartbeats 2000000 in
theorem wide_is (n : Nat) (hn : n ≤ 1000) (w : World) : Calls Try.prog 14 #[.int .i64 n] w fun e w' => e = .returned (.int .i64 (bl n : Nat)) ∧ w = w' := by
  have hn' : (n : Int) ≤ 1000 := by omega
  have hb := Lib.hid (bl_is n)
  have hs := bl_small hn
  go_enter Try.func14, Try.ntmps14
  go_wp2_with fail
  go_loopw [3] (fun h W => ∃ k : Nat, h = .int .i64 k ∧ k ≤ bl n ∧ W = w) (fun h _ => bl n - (intOf h).toNat)
  case atStart => exact ⟨0, rfl, Nat.zero_le _, rfl⟩
  case round =>
    obtain ⟨k, rfl, hk, rfl⟩ := hrel
    obtain ⟨P, hP, e1, e2⟩ := pow_val (k := k) (by omega)
    by_cases hlt : k < bl n
    · have h2 := hb.out.2 k hlt
      have h3 : (P : Int) ≤ (n : Int) := by omega
      have hkI : (k : Int) ≤ 10 := by omega
      clear hP
      go_wp2_with fail
      go_roundw
      case rel => exact ⟨k + 1, by go_num, by omega, by first | rfl | trivial⟩
      case measure => simp [intOf]; omega
    · obtain rfl : k = bl n := by omega
      have h2 := hb.out.1
      have h3 : (n : Int) < (P : Int) := by omega
      have hkI : ((bl n : Nat) : Int) ≤ 10 := by omega
      clear hP h2 hb hk hlt
      go_wp2_with fail
      go_ret
      exact ⟨by first | rfl | (push_cast; rfl), rfl⟩
end Go.Proofs.Ytcdmebjggdhhdaa
namespace Go.Proofs.Ytcdmebjggdhhdaa
open Go.RowKit

section
variable {K : Nat → Prop} {p : Nat} {s : Ar} {L : List Int} {w : World}
set_option maxRecDepth 100000 in
set_option maxHeartbeats 8000000 in
theorem set_arg {h x y i : Int} {l : List (Int × Int)} (g : Gd s L) (hL : L.length ≤ 200000) (hmb : s.made - s.busy ≤ 1000000000) (hx : Lh s h l) (fm : h = 0 ∨ Firm s L h) (hl : l.length ≤ 80000) (hxy : x < 0 ∨ y < 0) (ha : Ars w K p s) :
    Calls Try.prog 19 #[.pointer (some ⟨p, 0, none⟩), .int .i64 h, .int .i64 i, .agg #[.int .i64 x, .int .i64 y]] w fun e w' => e = .returned (.tuple #[.int .i64 0, .int .i64 1]) ∧ Below w.heap.size w w' := by
  obtain ⟨t, r, f, rfl⟩ := hx
  rw [Tr.len_list] at hl
  have hx : Has s h t := by
    rcases fm with rfl | fm
    · exact ⟨r, .inl rfl⟩
    · exact fm.has (g.goodb (by omega) hmb) r
  have HL := fun w ha => Lib.hid (llen_is (w := w) (K := K) (p := p) (g.goodb (by omega) hmb) (by decide) hx (by omega) ha)
  have HM := fun w => Lib.hid (may_arg (w := w) (a := x) (b := y) (i := i) (m := IntKind.i64.wrap ((t.len : Int) - 1)) hxy)
  clear g hx fm r f hxy
  have Ha := Lib.hid ha
  have hbx := heap_alloc_new w (.cells #[.int .i64 x, .int .i64 y] 30)
  have B1 := Lib.hid ((Below.refl w.heap.size w).alloc (Nat.le_refl _) (.cells #[.int .i64 x, .int .i64 y] 30))
  go_enter Try.func19, Try.ntmps19
  go_wp2_with fail
  generalize w.alloc (.cells #[.int .i64 x, .int .i64 y] 30) = w1 at *
  have l1 := lt_heap hbx
  have Hbx := Lib.hid hbx
  have cx0 : w1.cell? ⟨w.heap.size, 0, none⟩ = some (.int .i64 x) := cell_of_row _ _ _ _ _ _ hbx
  have cx1 : w1.cell? ⟨w.heap.size, 1, none⟩ = some (.int .i64 y) := cell_of_row _ _ _ _ _ _ hbx
  clear hbx
  go_upto_region 1 with fail
  go_cut [10] (fun v W => v = .int .i64 1 ∧ Below w1.heap.size w1 W)
  case first =>
    go_region_held3 (fun w' => w'.cell? ⟨w.heap.size, 0, none⟩ = some (.int .i64 x) ∧ w'.cell? ⟨w.heap.size, 1, none⟩ = some (.int .i64 y)) (go_keep) (first | (go_at_call 8; refine (HL _ (Ha.out.below B1.out).drew).out.mono ?_; rintro e w2 ⟨rfl, _, hk2⟩; have e0 : w2.cell? ⟨w.heap.size, 0, none⟩ = some (.int .i64 x) := cell_of_row _ _ _ _ _ _ ((hk2.block _ l1).trans Hbx.out); have e1 : w2.cell? ⟨w.heap.size, 1, none⟩ = some (.int .i64 y) := cell_of_row _ _ _ _ _ _ ((hk2.block _ l1).trans Hbx.out); have K2 := Lib.hid hk2; clear hk2) | (go_at_call 31; refine (HM _).out.mono ?_; rintro e w3 ⟨rfl, hk3⟩; have e2 : w3.cell? ⟨w.heap.size, 0, none⟩ = some (.int .i64 x) := cell_of_row _ _ _ _ _ _ ((hk3.block _ (Nat.lt_of_lt_of_le l1 K2.out.size)).trans ((K2.out.block _ l1).trans Hbx.out)); have e3 : w3.cell? ⟨w.heap.size, 1, none⟩ = some (.int .i64 y) := cell_of_row _ _ _ _ _ _ ((hk3.block _ (Nat.lt_of_lt_of_le l1 K2.out.size)).trans ((K2.out.block _ l1).trans Hbx.out)); have K3 := Lib.hid hk3; clear hk3))
    all_goals
      go_wp2_with fail
      go_meet
      case rel => exact ⟨rfl, (Below.trans (Below.refl _ _).drew K2.out).trans (K3.out.mono K2.out.size)⟩
  case rest =>
    obtain ⟨rfl, hk⟩ := hcut
    have Hbx2 := Lib.hid ((hk.block _ l1).trans Hbx.out)
    have B2 := Lib.hid (B1.out.trans (hk.mono B1.out.size))
    clear hk cx0 cx1 Hbx B1
    go_wp2_with fail
    go_ret2
    exact ⟨rfl, B2.out⟩
end
end Go.Proofs.Ytcdmebjggdhhdaa
namespace Go.Proofs.Ytcdmebjggdhhdaa
open Go.ChangeShapes Go.WideShapes Go.ChangeAt Go.RowKit

theorem elem_item : Elem Try.prog 42 30 2 := ⟨Try.underlying42, by kernel_rfl, by decide⟩
theorem elem_row : Elem Try.prog 39 42 1 := ⟨Try.underlying39, by kernel_rfl, by decide⟩
theorem pickm (i m : Int) (h1 : 1 ≤ m) (h2 : m ≤ 1000) : IntKind.i64.wrap (i.tmod m) = i.tmod m ∧ IntKind.i64.wrap (i.tmod m + m) = i.tmod m + m ∧ ∃ k : Nat, (i.tmod m + m).tmod m = (k : Int) ∧ (k : Int) < m := by
  have a1 : i.tmod m < m := Int.tmod_lt_of_pos i (by omega)
  have a2 : -m < i.tmod m := by
    have := Int.lt_tmod_of_pos i (show 0 < m by omega)
    omega
  have a3 : 0 ≤ (i.tmod m + m) % m := Int.emod_nonneg _ (by omega)
  have a4 : (i.tmod m + m) % m < m := Int.emod_lt_of_pos _ (by omega)
  obtain ⟨k, hk⟩ := Int.eq_ofNat_of_zero_le a3
  refine ⟨wrap_small (by omega) (by omega), wrap_small (by omega) (by omega), k, ?_, by omega⟩
  rw [Int.tmod_eq_emod_of_nonneg (by omega)]
  exact hk
/-- The value is no row, or one from its beginning on. -/
def Row0 (W : World) (v : Value) (l : List (Int × Int)) : Prop :=
  (v = .slice none 0 0 ∧ l = []) ∨ ∃ g c, v = .slice (some ⟨g, 0, none⟩) l.length c ∧ l.length ≤ c ∧ g < W.heap.size ∧ ∀ j u, (itemCells l)[j]? = some u → W.cell? ⟨g, j, none⟩ = some u
theorem Row0.reads {W : World} {v : Value} {l : List (Int × Int)} (h : Row0 W v l) : Reads W v 2 l.length (itemCells l) := by
  refine ⟨itemCells_len l, ?_⟩
  rcases h with ⟨rfl, rfl⟩ | ⟨g, c, e, hc, hg, hj⟩
  · exact .inl ⟨rfl, rfl⟩
  · exact .inr ⟨g, 0, c, e, hg, hc, fun j u hu => by rw [Nat.zero_add]; exact hj j u hu⟩
/-- A value that reads as items, in memory that is kept. -/
structure Kept1 (W : World) (K : Nat → Prop) (v : Value) (l : List (Int × Int)) : Prop where
  items : Items W v l
  row : Row0 W v l
  sub : ∀ b, v.ownBlock = some b → K b
theorem Kept1.kept {W W' : World} {K : Nat → Prop} {v : Value} {l : List (Int × Int)} (h : Kept1 W K v l) (hk : Kept K W W') : Kept1 W' K v l := by
  refine ⟨h.items.kept hk h.sub, ?_, h.sub⟩
  rcases h.row with e | ⟨g, c, e, hc, hg, hj⟩
  · exact .inl e
  · have kg := h.sub g (by rw [e]; rfl)
    exact .inr ⟨g, c, e, hc, Nat.lt_of_lt_of_le hg hk.size, fun j u hu => (World.cell?_of_block (a := ⟨g, j, none⟩) (hk.block g hg kg)).trans (hj j u hu)⟩
theorem Kept1.own {W : World} {B : Nat} {K : Nat → Prop} {v : Value} {l : List (Int × Int)} (h : Own W B 30 2 K v l.length (itemCells l)) : Kept1 W K v l := by
  refine ⟨Items.own h.1, ?_, h.2⟩
  rcases h.1.2 with ⟨e, e0⟩ | ⟨g, cap, cur, e, hg, hh, hl, hm, hs, ht⟩
  · exact .inl ⟨e, List.length_eq_zero_iff.1 e0⟩
  · refine .inr ⟨g, cap, e, hl, lt_heap hh, fun j u hj => ?_⟩
    have hj' : j < l.length * 2 := by rw [← itemCells_len]; exact (List.getElem?_eq_some_iff.1 hj).1
    rw [cell_of_row _ _ _ _ _ _ hh, ← Array.getElem?_toList, ← hj, ← ht, List.getElem?_take, if_pos hj']
theorem Kept1.into {W : World} {K K' : Nat → Prop} {v : Value} {l : List (Int × Int)} (h : Kept1 W K v l) (hs : ∀ b, v.ownBlock = some b → K' b) : Kept1 W K' v l := ⟨h.items, h.row, hs⟩
/-- Between two rounds. -/
structure PS (w : World) (p j : Nat) (K k1 k2 : Nat → Prop) (s : Ar) (R : List Int) (ws : List (List (Int × Int))) (V : List Value) (v1 v2 : Value) (W : World) : Prop where
  ars : Ars W K p s
  gd : Gd s R
  lh : ∀ i, i < R.length → Lh s (R.getD i 0) (ws.getD i [])
  lenw : ws.length = R.length
  lenV : V.length = R.length
  pos : 0 < R.length
  le : R.length ≤ j + 1
  rg : ∀ i, i < R.length → Rg (ws.getD i []) ∧ (ws.getD i []).length ≤ j
  ids : Lst W w.heap.size k1 v1 R
  want : Own W w.heap.size 42 1 k2 v2 R.length V
  items : ∀ i, i < R.length → Kept1 W (fun x => K x ∧ ¬ k1 x ∧ ¬ k2 x) (V.getD i undef) (ws.getD i [])
  sub1 : ∀ x, k1 x → K x
  sub2 : ∀ x, k2 x → K x
  apart : ∀ x, k1 x → ¬ k2 x
  kK : ∀ x, x < w.heap.size → K x
  bel : Below w.heap.size w W
  mb : s.made - s.busy ≤ 500 * j
  n : s.n ≤ 500
section
variable {w W W' : World} {p j : Nat} {K k1 k2 : Nat → Prop} {s : Ar} {R : List Int} {ws : List (List (Int × Int))} {V : List Value} {v1 v2 : Value}
theorem PS.klt (T : PS w p j K k1 k2 s R ws V v1 v2 W) : ∀ b, K b → b < W.heap.size := T.ars.lt
/-- Memory went on that is none of ours. -/
theorem PS.kept (T : PS w p j K k1 k2 s R ws V v1 v2 W) (ha : Ars W' K p s) (hk : Kept K W W') : PS w p j K k1 k2 s R ws V v1 v2 W' :=
  { T with
    ars := ha
    ids := T.ids.kept (hk.mono fun x _ hx => T.sub1 x hx)
    want := T.want.kept (hk.mono fun x _ hx => T.sub2 x hx)
    items := fun i hi => (T.items i hi).kept (hk.mono fun _ _ hx => hx.1)
    bel := T.bel.trans ((hk.mono fun x _ hx => T.kK x hx).below_of T.bel.size) }
theorem PS.below (T : PS w p j K k1 k2 s R ws V v1 v2 W) (hb : Below W.heap.size W W') : PS w p j K k1 k2 s R ws V v1 v2 W' := T.kept (T.ars.below hb) (Kept.of_below hb K)
theorem PS.alloc (T : PS w p j K k1 k2 s R ws V v1 v2 W) (o : Obj) : PS w p j K k1 k2 s R ws V v1 v2 (W.alloc o) := T.below ((Below.refl _ _).alloc (Nat.le_refl _) o)
theorem PS.next (T : PS w p j K k1 k2 s R ws V v1 v2 W) : PS w p (j + 1) K k1 k2 s R ws V v1 v2 W :=
  { T with
    le := Nat.le_succ_of_le T.le
    rg := fun i hi => ⟨(T.rg i hi).1, Nat.le_succ_of_le (T.rg i hi).2⟩
    mb := by have := T.mb; omega }
theorem PS.allocK (T : PS w p j K k1 k2 s R ws V v1 v2 W) (o : Obj) : PS w p j (fun x => K x ∨ x = W.heap.size) k1 k2 s R ws V v1 v2 (W.alloc o) :=
  { T.alloc o with
    ars := T.ars.allocK o
    items := fun i hi => ((T.alloc o).items i hi).into (fun b hb => ⟨.inl (((T.alloc o).items i hi).sub b hb).1, (((T.alloc o).items i hi).sub b hb).2⟩)
    sub1 := fun x hx => .inl (T.sub1 x hx)
    sub2 := fun x hx => .inl (T.sub2 x hx)
    kK := fun x hx => .inl (T.kK x hx) }
theorem PS.good (T : PS w p j K k1 k2 s R ws V v1 v2 W) (hj : j ≤ 1000) : Snd s := T.gd.snd (by have := T.le; omega) (by have := T.mb; omega)
theorem PS.goodb (T : PS w p j K k1 k2 s R ws V v1 v2 W) (hj : j ≤ 1000) : Good s 100000000000 R := T.gd.goodb (by have := T.le; omega) (by have := T.mb; omega)
theorem mem_getD {α : Type} {l : List α} {i : Nat} {d : α} (hi : i < l.length) : l.getD i d ∈ l := by
  rw [List.getD_eq_getElem?_getD, List.getElem?_eq_getElem hi]
  exact List.getElem_mem _
theorem firm_at {s : Ar} {R : List Int} {i : Nat} (hi : i < R.length) : Firm s R (R.getD i 0) := .inl (mem_getD hi)
/-- Frees what waits. -/
theorem PS.work (T : PS w p j K k1 k2 s R ws V v1 v2 W) (m : Nat) (ha : Ars W' K p (s.work m).1) (hk : Kept K W W') : PS w p (j + 1) K k1 k2 (s.work m).1 R ws V v1 v2 W' := by
  have g := gd_work T.gd m
  have b1 := g.busy_le
  have b2 := T.gd.busy_le
  have w1 := work_made m s
  have w2 := work_nn m s
  have := T.mb
  have := T.n
  exact ⟨ha, g, fun i hi => (T.lh i hi).workg T.gd (.inr (mem_getD hi)) m, T.lenw, T.lenV, T.pos, Nat.le_succ_of_le T.le, fun i hi => ⟨(T.rg i hi).1, Nat.le_succ_of_le (T.rg i hi).2⟩, T.ids.kept (hk.mono fun x _ hx => T.sub1 x hx), T.want.kept (hk.mono fun x _ hx => T.sub2 x hx), fun i hi => (T.items i hi).kept (hk.mono fun _ _ hx => hx.1), T.sub1, T.sub2, T.apart, T.kK, T.bel.trans ((hk.mono fun x _ hx => T.kK x hx).below_of T.bel.size), by omega, by omega⟩
theorem own_one {W : World} {B : Nat} (hB : B ≤ W.heap.size) (e : TypeId) (u : Value) : Own (W.alloc (.cells #[u] e)) B e 1 (fun x => x = W.heap.size) (.slice (some ⟨W.heap.size, 0, none⟩) 1 1) 1 [u] :=
  ⟨⟨rfl, .inr ⟨W.heap.size, 1, #[u], rfl, hB, heap_alloc_new _ _, Nat.le_refl _, by decide, rfl, rfl⟩⟩, fun g hg => by cases hg; rfl⟩
/-- No list but the empty one. -/
theorem ps_one (ha : Ars W K p s) (g : Gd s []) (kK : ∀ x, x < w.heap.size → K x) (bel : Below w.heap.size w W) (mb : s.made - s.busy ≤ 500 * j) (n : s.n ≤ 500) :
    PS w p j (fun x => (K x ∨ x = W.heap.size) ∨ x = W.heap.size + 1) (fun x => x = W.heap.size) (fun x => x = W.heap.size + 1) s [0] [[]] [.slice none 0 0] (.slice (some ⟨W.heap.size, 0, none⟩) 1 1) (.slice (some ⟨W.heap.size + 1, 0, none⟩) 1 1)
      ((W.alloc (.cells #[.int .i64 0] 3)).alloc (.cells #[.slice none 0 0] 42)) := by
  have hz : (W.alloc (.cells #[.int .i64 0] 3)).heap.size = W.heap.size + 1 := by simp
  have h1 : Ars ((W.alloc (.cells #[.int .i64 0] 3)).alloc (.cells #[.slice none 0 0] 42)) (fun x => (K x ∨ x = W.heap.size) ∨ x = W.heap.size + 1) p s := by
    have := (ha.allocK (.cells #[.int .i64 0] 3)).allocK (.cells #[.slice none 0 0] 42)
    rw [hz] at this
    exact this
  have hw : Own ((W.alloc (.cells #[.int .i64 0] 3)).alloc (.cells #[.slice none 0 0] 42)) w.heap.size 42 1 (fun x => x = W.heap.size + 1) (.slice (some ⟨W.heap.size + 1, 0, none⟩) 1 1) 1 [.slice none 0 0] := by
    have := own_one (W := W.alloc (.cells #[.int .i64 0] 3)) (B := w.heap.size) (by rw [hz]; have := bel.size; omega) 42 (.slice none 0 0)
    rw [hz] at this
    exact this
  have hi : Own (W.alloc (.cells #[.int .i64 0] 3)) w.heap.size 3 1 (fun x => x = W.heap.size) (.slice (some ⟨W.heap.size, 0, none⟩) 1 1) 1 [.int .i64 0] := own_one bel.size _ _
  refine ⟨h1, g.zero, fun i hi => ?_, rfl, rfl, Nat.one_pos, by show 1 ≤ j + 1; omega, fun i hi => ?_, ?_, hw, fun i hi => ?_, fun x hx => .inl (.inr hx), fun x hx => .inr hx, fun x hx hx2 => by omega, fun x hx => .inl (.inl (kK x hx)), (bel.alloc bel.size _).alloc (by rw [hz]; have := bel.size; omega) _, mb, n⟩
  · obtain rfl : i = 0 := by simp at hi; omega
    exact Lh.nil _
  · obtain rfl : i = 0 := by simp at hi; omega
    exact ⟨fun p hp => (by cases hp), Nat.zero_le _⟩
  · exact hi.same fun b hb _ => Below.heap_alloc _ _ _ hb
  · obtain rfl : i = 0 := by simp at hi; omega
    exact ⟨⟨⟨none, 0, rfl⟩, fun i hi => absurd hi (Nat.not_lt_zero _)⟩, .inl ⟨rfl, rfl⟩, fun b hb => (by cases hb)⟩
end
end Go.Proofs.Ytcdmebjggdhhdaa
namespace Go.Proofs.Ytcdmebjggdhhdaa
open Go.ChangeShapes Go.WideShapes Go.ChangeAt Go.RowKit

/-- The first u roots are dropped. -/
structure DS (w : World) (p u : Nat) (K k1 : Nat → Prop) (s : Ar) (R : List Int) (v1 : Value) (W : World) : Prop where
  ars : Ars W K p s
  gd : Gd s (R.drop u)
  rng : ∀ i, i < R.length → 0 ≤ R.getD i 0 ∧ R.getD i 0 ≤ s.n
  le : R.length ≤ 200
  mb : s.made - s.busy ≤ 1000000
  n : s.n ≤ 500
  ids : Lst W w.heap.size k1 v1 R
  sub1 : ∀ x, k1 x → K x
  kK : ∀ x, x < w.heap.size → K x
  bel : Below w.heap.size w W
section
variable {w W W' : World} {p j u : Nat} {K k1 k2 : Nat → Prop} {s : Ar} {R : List Int} {ws : List (List (Int × Int))} {V : List Value} {v1 v2 : Value}
theorem drop_getD {R : List Int} {u : Nat} (hu : u < R.length) : R.drop u = R.getD u 0 :: R.drop (u + 1) := by
  rw [List.drop_eq_getElem_cons hu, List.getD_eq_getElem?_getD, List.getElem?_eq_getElem hu]
  rfl
theorem PS.drops (T : PS w p j K k1 k2 s R ws V v1 v2 W) (hj : j ≤ 150) : DS w p 0 K k1 s R v1 W :=
  ⟨T.ars, by rw [List.drop_zero]; exact T.gd, fun i hi => (T.lh i hi).range, by have := T.le; omega, by have := T.mb; omega, T.n, T.ids, T.sub1, T.kK, T.bel⟩
theorem DS.good (D : DS w p u K k1 s R v1 W) : Snd s := D.gd.snd (by have := D.le; simp; omega) (by have := D.mb; omega)
theorem DS.skip (D : DS w p u K k1 s R v1 W) (hu : u < R.length) (h0 : R.getD u 0 = 0) : DS w p (u + 1) K k1 s R v1 W :=
  { D with gd := by have := D.gd; rw [drop_getD hu, h0] at this; exact this.unzero }
theorem DS.can (D : DS w p u K k1 s R v1 W) (hu : u < R.length) (h0 : R.getD u 0 ≠ 0) : s.drop (R.getD u 0) = ((s.drop (R.getD u 0)).1, 0) := by
  have g := D.gd
  rw [drop_getD hu] at g
  have hr := D.rng u hu
  unfold Ar.drop
  rw [if_neg (g.live (by omega) (by omega) (by simp))]
theorem DS.step (D : DS w p u K k1 s R v1 W) (hu : u < R.length) (ha : Ars W' K p (s.drop (R.getD u 0)).1) (hk : Kept K W W') : DS w p (u + 1) K k1 (s.drop (R.getD u 0)).1 R v1 W' := by
  have g := D.gd
  rw [drop_getD hu] at g
  have hr := D.rng u hu
  have hd1 := drop_busy s (R.getD u 0)
  have hd2 := drop_made s (R.getD u 0)
  have hd3 := drop_n s (R.getD u 0)
  exact ⟨ha, gd_drop g hr.1 (by omega), fun i hi => by rw [hd3]; exact D.rng i hi, D.le, by rw [hd1, hd2]; exact D.mb, by rw [hd3]; exact D.n, D.ids.kept (hk.mono fun x _ hx => D.sub1 x hx), D.sub1, D.kK, D.bel.trans ((hk.mono fun x _ hx => D.kK x hx).below_of D.bel.size)⟩
theorem DS.zero (D : DS w p u K k1 s R v1 W) (hu : u = R.length) : (s.work 1073741824).1.busy = 0 := by
  have g := D.gd
  rw [hu, List.drop_length] at g
  have bl := g.busy_le
  have n2 := D.n
  have g3 := gd_work g 1073741824
  have h0 := busy_cover g3 (work_none 1073741824 _ g (by omega)) (l := []) (fun y hy => by cases hy) (fun x k hx => by cases hx)
  have := g3.busy_le.1
  simp at h0
  omega
end
end Go.Proofs.Ytcdmebjggdhhdaa
namespace Go.Proofs.Ytcdmebjggdhhdaa
open Go.ChangeShapes Go.WideShapes Go.ChangeAt Go.RowKit

/-- Behind the call of a change: it was refused with f0, and nothing is new; or the list is made, unless the arena was full. -/
def Out (K : Nat → Prop) (p : Nat) (s : Ar) (R : List Int) (W0 : World) (f0 : Int) (l2 : List (Int × Int)) (wl : Nat) (g e : Value) (W : World) : Prop :=
  Kept K W0 W ∧ ((f0 ≠ 0 ∧ f0 ≠ 2 ∧ g = .int .i64 0 ∧ e = .int .i64 f0 ∧ Ars W K p s) ∨
    (f0 = 0 ∧ ∃ (q e1 : Int) (s1 : Ar), g = .int .i64 q ∧ e = .int .i64 e1 ∧ LMade s s1 e1 q (lc wl) l2 R ∧ Ars W K p s1))
/-- What should be there: an own list of items, or none. -/
def Nowb (Wb : World) (B : Nat) (f0 : Int) (l2 : List (Int × Int)) (f now : Value) (W : World) : Prop :=
  f = .int .i64 f0 ∧ Below Wb.heap.size Wb W ∧ ((f0 ≠ 0 ∧ now = .slice none 0 0) ∨
    (f0 = 0 ∧ ∃ kN : Nat → Prop, Own W B 30 2 kN now l2.length (itemCells l2) ∧ ∀ x, kN x → Wb.heap.size ≤ x ∧ x < W.heap.size))
theorem rg_app {a b : List (Int × Int)} (ha : Rg a) (hb : Rg b) : Rg (a ++ b) := fun p hp => by
  rcases List.mem_append.1 hp with hp | hp
  · exact ha p hp
  · exact hb p hp
theorem rg_take {l : List (Int × Int)} (h : Rg l) (k : Nat) : Rg (l.take k) := fun p hp => h p (List.mem_of_mem_take hp)
theorem rg_drop {l : List (Int × Int)} (h : Rg l) (k : Nat) : Rg (l.drop k) := fun p hp => h p (List.mem_of_mem_drop hp)
theorem rg_cons {l : List (Int × Int)} {x y : Int} (h : Rg l) (hx : 0 ≤ x ∧ x ≤ 9223372036854775807) (hy : 0 ≤ y ∧ y ≤ 9223372036854775807) : Rg ((x, y) :: l) := fun p hp => by
  rcases List.mem_cons.1 hp with rfl | hp
  · exact ⟨hx, hy⟩
  · exact h p hp
theorem rg_ins {l : List (Int × Int)} {k : Nat} {x y : Int} (h : Rg l) (hx : 0 ≤ x ∧ x ≤ 9223372036854775807) (hy : 0 ≤ y ∧ y ≤ 9223372036854775807) : Rg (insL l k (x, y)) := rg_app (rg_take h k) (rg_cons (rg_drop h k) hx hy)
theorem rg_del {l : List (Int × Int)} (h : Rg l) (k : Nat) : Rg (delL l k) := rg_app (rg_take h k) (rg_drop h (k + 1))
theorem rg_set {l : List (Int × Int)} {k : Nat} {x y : Int} (h : Rg l) (hx : 0 ≤ x ∧ x ≤ 9223372036854775807) (hy : 0 ≤ y ∧ y ≤ 9223372036854775807) : Rg (setL l k (x, y)) := rg_app (rg_take h k) (rg_cons (rg_drop h (k + 1)) hx hy)
theorem insL_len' {α : Type} {l : List α} {k : Nat} {y : α} (hk : k ≤ l.length) : (insL l k y).length = l.length + 1 := by
  unfold insL
  simp
  omega
theorem delL_len' {α : Type} {l : List α} {k : Nat} (hk : k < l.length) : (delL l k).length + 1 = l.length := by
  unfold delL
  simp
  omega
theorem setL_len' {α : Type} {l : List α} {k : Nat} {y : α} (hk : k < l.length) : (setL l k y).length = l.length := by
  unfold setL
  simp
  omega
section
variable {w W W0 W' : World} {p j u m : Nat} {K K2 k1 k2 kA kB kN : Nat → Prop} {s s1 : Ar} {R : List Int} {ws : List (List (Int × Int))} {V : List Value} {v1 v2 a b nv : Value} {q e1 f0 : Int} {l2 : List (Int × Int)}
theorem out_told (ha : Ars W0 K p s) (h : f0 ≠ 0) (h2 : f0 ≠ 2) (hb : Below W0.heap.size W0 W) (wl : Nat) : Out K p s R W0 f0 l2 wl (.int .i64 0) (.int .i64 f0) W :=
  ⟨Kept.of_below hb K, .inl ⟨h, h2, rfl, rfl, ha.below hb⟩⟩
theorem PS.full (T : PS w p j K k1 k2 s R ws V v1 v2 W0) (c : LMade s s1 e1 q m l2 R) (e : e1 ≠ 0) (ha : Ars W K p s1) (hk : Kept K W0 W) : q = 0 ∧ e1 = 2 ∧ PS w p j K k1 k2 s1 R ws V v1 v2 W := by
  have q0 := c.zero e
  have g := c.gd
  have md := c.went.md
  have nn := c.went.ext.n
  subst q0
  refine ⟨rfl, ?_, ha, g.unzero, fun i hi => (T.lh i hi).ext c.went.ext, T.lenw, T.lenV, T.pos, T.le, T.rg, T.ids.kept (hk.mono fun x _ hx => T.sub1 x hx), T.want.kept (hk.mono fun x _ hx => T.sub2 x hx), fun i hi => (T.items i hi).kept (hk.mono fun _ _ hx => hx.1), T.sub1, T.sub2, T.apart, T.kK, T.bel.trans ((hk.mono fun x _ hx => T.kK x hx).below_of T.bel.size), by have := T.mb; omega, by have := T.n; omega⟩
  rcases c.eok with e' | e'
  · exact absurd e' e
  · exact e'.1
theorem getD_fore {α : Type} {l : List α} {y d : α} {i : Nat} (hi : i < l.length) : (l ++ [y]).getD i d = l.getD i d := by
  rw [List.getD_eq_getElem?_getD, List.getD_eq_getElem?_getD, List.getElem?_append_left hi]
theorem getD_end {α : Type} {l : List α} {y d : α} {i : Nat} (hi : i = l.length) : (l ++ [y]).getD i d = y := by
  subst hi
  rw [List.getD_eq_getElem?_getD, List.getElem?_append_right (Nat.le_refl _), Nat.sub_self]
  rfl
/-- What there is behind a change that went well, ahead of the two appends. -/
structure Mida (w : World) (p j : Nat) (K k1 k2 kN : Nat → Prop) (s1 : Ar) (R : List Int) (q : Int) (l2 : List (Int × Int)) (ws : List (List (Int × Int))) (V : List Value) (v1 v2 nv : Value) (W : World) : Prop where
  ars : Ars W (fun x => K x ∨ kN x) p s1
  gd : Gd s1 (q :: R)
  lh : ∀ i, i < R.length → Lh s1 (R.getD i 0) (ws.getD i [])
  lq : Lh s1 q l2
  lenw : ws.length = R.length
  lenV : V.length = R.length
  le : R.length ≤ j + 1
  rg : ∀ i, i < R.length → Rg (ws.getD i []) ∧ (ws.getD i []).length ≤ j
  rq : Rg l2 ∧ l2.length ≤ j + 1
  ids : Lst W w.heap.size k1 v1 R
  want : Own W w.heap.size 42 1 k2 v2 R.length V
  items : ∀ i, i < R.length → Kept1 W (fun x => K x ∧ ¬ k1 x ∧ ¬ k2 x) (V.getD i undef) (ws.getD i [])
  now : Kept1 W kN nv l2
  sub1 : ∀ x, k1 x → K x
  sub2 : ∀ x, k2 x → K x
  subNn : ∀ x, kN x → ¬ K x ∧ x < W.heap.size
  apart : ∀ x, k1 x → ¬ k2 x
  kK : ∀ x, x < w.heap.size → K x
  bel : Below w.heap.size w W
  mb : s1.made - s1.busy ≤ 500 * j
  n : s1.n ≤ 500
theorem PS.mid (T : PS w p j K k1 k2 s R ws V v1 v2 W0) (c : LMade s s1 0 q m l2 R) (ha : Ars W K p s1) (hk : Kept K W0 W) (hb : Below W.heap.size W W') (hl : Rg l2 ∧ l2.length ≤ j + 1) (ho : Own W' w.heap.size 30 2 kN nv l2.length (itemCells l2)) (hn : ∀ x, kN x → W.heap.size ≤ x ∧ x < W'.heap.size) : Mida w p j K k1 k2 kN s1 R q l2 ws V v1 v2 nv W' := by
  have md := c.went.md
  have nn := c.went.ext.n
  have hk2 := hk.trans (Kept.of_below hb K)
  have ha2 := ha.below hb
  refine ⟨ha.step hb.size (fun x hx _ => hb.block x hx) (fun x hx => ?_), c.gd, fun i hi => (T.lh i hi).ext c.went.ext, c.lh rfl, T.lenw, T.lenV, T.le, T.rg, hl, T.ids.kept (hk2.mono fun x _ hx => T.sub1 x hx), T.want.kept (hk2.mono fun x _ hx => T.sub2 x hx), fun i hi => (T.items i hi).kept (hk2.mono fun _ _ hx => hx.1), Kept1.own ho, T.sub1, T.sub2, fun x hx => ⟨fun e => ?_, (hn x hx).2⟩, T.apart, T.kK, T.bel.trans ((hk2.mono fun x _ hx => T.kK x hx).below_of T.bel.size), by have := T.mb; omega, by have := T.n; omega⟩
  · rcases hx with hx | hx
    · exact ⟨ha2.lt x hx, .inl hx⟩
    · exact ⟨(hn x hx).2, .inr (hn x hx).1⟩
  · have := ha.lt x e
    have := (hn x hx).1
    omega
theorem Mida.kept (M : Mida w p j K k1 k2 kN s1 R q l2 ws V v1 v2 nv W) (ha : Ars W' (fun x => K x ∨ kN x) p s1) (hk : Kept (fun x => K x ∨ kN x) W W') : Mida w p j K k1 k2 kN s1 R q l2 ws V v1 v2 nv W' :=
  { M with
    ars := ha
    ids := M.ids.kept (hk.mono fun x _ hx => .inl (M.sub1 x hx))
    want := M.want.kept (hk.mono fun x _ hx => .inl (M.sub2 x hx))
    items := fun i hi => (M.items i hi).kept (hk.mono fun _ _ hx => .inl hx.1)
    now := M.now.kept (hk.mono fun _ _ hx => .inr hx)
    subNn := fun x hx => ⟨(M.subNn x hx).1, Nat.lt_of_lt_of_le (M.subNn x hx).2 hk.size⟩
    bel := M.bel.trans ((hk.mono fun x _ hx => .inl (M.kK x hx)).below_of M.bel.size) }
theorem Mida.below (M : Mida w p j K k1 k2 kN s1 R q l2 ws V v1 v2 nv W) (hb : Below W.heap.size W W') : Mida w p j K k1 k2 kN s1 R q l2 ws V v1 v2 nv W' := M.kept (M.ars.below hb) (Kept.of_below hb _)
/-- The new list stands behind the others. -/
theorem Mida.push (M : Mida w p j K k1 k2 kN s1 R q l2 ws V v1 v2 nv W) (P : Pair2 W w.heap.size k1 k2 kA kB W') (pa : Lst W' w.heap.size kA a (R ++ [q])) (pb : Own W' w.heap.size 42 1 kB b (R.length + 1) (V ++ [nv])) :
    PS w p (j + 1) (fun x => ((K x ∨ kN x) ∨ kA x) ∨ kB x) kA kB s1 (R ++ [q]) (ws ++ [l2]) (V ++ [nv]) a b W' := by
  have lt : ∀ x, (K x ∨ kN x) → x < W.heap.size := M.ars.lt
  have keep : ∀ {v : Value} {l : List (Int × Int)}, Kept1 W (fun x => (K x ∨ kN x) ∧ ¬ k1 x ∧ ¬ k2 x) v l → Kept1 W' (fun x => (((K x ∨ kN x) ∨ kA x) ∨ kB x) ∧ ¬ kA x ∧ ¬ kB x) v l := fun {v l} h => by
    refine (h.kept (W' := W') ⟨P.below.os, P.below.tape, P.below.output, P.size, fun x hx hn => P.same x hx hn.2.1 hn.2.2⟩).into fun x hx => ?_
    obtain ⟨h1, h2, h3⟩ := h.sub x hx
    have := lt x h1
    refine ⟨.inl (.inl h1), fun e => ?_, fun e => ?_⟩
    · rcases P.new1 x e with y | y
      · exact h2 y
      · omega
    · rcases P.new2 x e with y | y
      · exact h3 y
      · omega
  refine ⟨M.ars.step P.size (fun x hx hn => P.same x hx (fun e => hn (.inl (M.sub1 x e))) fun e => hn (.inl (M.sub2 x e))) (fun x hx => ?_), (M.gd.perm' ?_), fun i hi => ?_, by simp [M.lenw], by simp [M.lenV], by simp, by have := M.le; simp; omega, fun i hi => ?_, pa, by simpa using pb, fun i hi => ?_, fun x hx => .inl (.inr hx), fun x hx => .inr hx, P.apart, fun x hx => .inl (.inl (.inl (M.kK x hx))), M.bel.trans P.below, by have := M.mb; omega, M.n⟩
  · rcases hx with (hx | hx) | hx
    · exact ⟨Nat.lt_of_lt_of_le (lt x hx) P.size, .inl hx⟩
    · refine ⟨P.lt1 x hx, ?_⟩
      rcases P.new1 x hx with y | y
      · exact .inl (.inl (M.sub1 x y))
      · exact .inr y
    · refine ⟨P.lt2 x hx, ?_⟩
      rcases P.new2 x hx with y | y
      · exact .inl (.inl (M.sub2 x y))
      · exact .inr y
  · exact List.perm_append_comm
  · simp at hi
    by_cases e : i = R.length
    · rw [getD_end e, getD_end (by rw [M.lenw]; exact e)]
      exact M.lq
    · rw [getD_fore (by omega), getD_fore (by rw [M.lenw]; omega)]
      exact M.lh i (by omega)
  · simp at hi
    by_cases e : i = R.length
    · rw [getD_end (by rw [M.lenw]; exact e)]
      exact M.rq
    · rw [getD_fore (by rw [M.lenw]; omega)]
      have := M.rg i (by omega)
      exact ⟨this.1, by omega⟩
  · simp at hi
    by_cases e : i = R.length
    · rw [getD_end (by rw [M.lenV]; exact e), getD_end (by rw [M.lenw]; exact e)]
      exact keep (M.now.into fun x hx => ⟨.inr (M.now.sub x hx), fun e => (M.subNn x (M.now.sub x hx)).1 (M.sub1 x e), fun e => (M.subNn x (M.now.sub x hx)).1 (M.sub2 x e)⟩)
    · rw [getD_fore (by rw [M.lenV]; omega), getD_fore (by rw [M.lenw]; omega)]
      have h := M.items i (by omega)
      exact keep (h.into fun x hx => ⟨.inl (h.sub x hx).1, (h.sub x hx).2⟩)
theorem pair_self {w0 : World} {B : Nat} {k1 k2 : Nat → Prop} (ap : ∀ b, k1 b → ¬ k2 b) (l1 : ∀ b, k1 b → b < w0.heap.size) (l2 : ∀ b, k2 b → b < w0.heap.size) : Pair2 w0 B k1 k2 k1 k2 w0 :=
  ⟨ap, l1, l2, fun _ h => .inl h, fun _ h => .inl h, Nat.le_refl _, fun _ _ _ _ => rfl, Below.refl _ _⟩
theorem Mida.pair1 (M : Mida w p j K k1 k2 kN s1 R q l2 ws V v1 v2 nv W) (o1 : Obj) : Pair2 W w.heap.size k1 k2 (fun x => k1 x ∨ x = W.heap.size) k2 (W.alloc o1) ∧ ∀ b, b < W.heap.size → k2 b → (W.alloc o1).heap[b]? = W.heap[b]? :=
  (pair_self M.apart (fun b hb => M.ars.lt b (.inl (M.sub1 b hb))) (fun b hb => M.ars.lt b (.inl (M.sub2 b hb)))).step1 (Grew.alloc W w.heap.size M.bel.size k1 (fun b hb => M.ars.lt b (.inl (M.sub1 b hb))) o1)
theorem Mida.app1 (M : Mida w p j K k1 k2 kN s1 R q l2 ws V v1 v2 nv W) :
    Lst (W.alloc (.cells #[.int .i64 q] 3)) w.heap.size (fun x => k1 x ∨ x = W.heap.size) v1 R ∧ (∀ b, (k1 b ∨ b = W.heap.size) → b < (W.alloc (.cells #[.int .i64 q] 3)).heap.size) ∧ w.heap.size ≤ (W.alloc (.cells #[.int .i64 q] 3)).heap.size ∧
      Ints (W.alloc (.cells #[.int .i64 q] 3)) (.slice (some ⟨W.heap.size, 0, none⟩) 1 1) [q] :=
  ⟨Lst.mono (Lst.same M.ids fun b hb _ => Below.heap_alloc _ _ _ hb) (fun _ _ h => .inl h), (M.pair1 _).1.lt1, by have := M.bel.size; simp; omega, ints_one W q⟩
theorem Mida.app2 {W2 : World} {a : Value} (M : Mida w p j K k1 k2 kN s1 R q l2 ws V v1 v2 nv W) (h1 : PushedS (W.alloc (.cells #[.int .i64 q] 3)) W2 w.heap.size (fun x => k1 x ∨ x = W.heap.size) kA a (R ++ [q])) :
    Own (W2.alloc (.cells #[nv] 42)) w.heap.size 42 1 (fun x => k2 x ∨ x = W2.heap.size) v2 R.length V ∧ (∀ b, (k2 b ∨ b = W2.heap.size) → b < (W2.alloc (.cells #[nv] 42)).heap.size) ∧ w.heap.size ≤ (W2.alloc (.cells #[nv] 42)).heap.size ∧
      Reads (W2.alloc (.cells #[nv] 42)) (.slice (some ⟨W2.heap.size, 0, none⟩) 1 1) 1 1 [nv] := by
  obtain ⟨P1, s1'⟩ := M.pair1 (.cells #[.int .i64 q] 3)
  obtain ⟨P2, s2'⟩ := P1.step1 h1.grew
  have hz : (W2.alloc (.cells #[nv] 42)).heap.size = W2.heap.size + 1 := by simp
  have lt2 := P2.lt2
  refine ⟨?_, fun b hb => ?_, ?_, reads_box (by rw [hz]; omega) rfl fun j u hu => ?_⟩
  · refine (Own.same (w := W2) ?_ fun b hb _ => Below.heap_alloc _ _ _ hb).into fun _ => .inl
    refine Own.same (w := W.alloc (.cells #[.int .i64 q] 3)) ?_ fun b hb hk => s2' b hb hk
    exact Own.same M.want fun b hb hk => s1' b hb hk
  · rw [hz]
    rcases hb with hb | rfl
    · have := lt2 b hb; omega
    · omega
  · rw [hz]
    have := P2.size
    have := M.bel.size
    omega
  · match j, hu with
    | 0, hu => simp at hu; subst hu; exact cell_new rfl rfl
theorem Mida.done {W2 W3 : World} {a b : Value} (M : Mida w p j K k1 k2 kN s1 R q l2 ws V v1 v2 nv W) (h1 : PushedS (W.alloc (.cells #[.int .i64 q] 3)) W2 w.heap.size (fun x => k1 x ∨ x = W.heap.size) kA a (R ++ [q]))
    (h2 : PushG (W2.alloc (.cells #[nv] 42)) W3 w.heap.size 42 1 (fun x => k2 x ∨ x = W2.heap.size) kB b (R.length + 1) (V ++ [nv])) :
    (∃ K' k1' k2' s' R' ws' V', PS w p (j + 1) K' k1' k2' s' R' ws' V' a b W3) ∧ ∀ z, z < W.heap.size → ¬ k1 z → ¬ k2 z → W3.heap[z]? = W.heap[z]? := by
  obtain ⟨P1, s1'⟩ := M.pair1 (.cells #[.int .i64 q] 3)
  obtain ⟨P2, s2'⟩ := P1.step1 h1.grew
  have hB2 : w.heap.size ≤ W2.heap.size := Nat.le_trans M.bel.size P2.size
  obtain ⟨P3, s3'⟩ := P2.swap.step1 (Grew.alloc W2 w.heap.size hB2 k2 P2.lt2 (.cells #[nv] 42))
  obtain ⟨P4, s4'⟩ := P3.step1 h2.grew
  refine ⟨⟨_, _, _, _, _, _, _, M.push P4.swap (Lst.same (xs := R ++ [q]) (w := W2.alloc (.cells #[nv] 42)) (Lst.same (xs := R ++ [q]) h1.lst fun b hb hk => s3' b hb hk) fun b hb hk => s4' b hb hk) h2.own⟩, fun z hz n1 n2 => P4.same z hz n2 n1⟩
end
end Go.Proofs.Ytcdmebjggdhhdaa
namespace Go.Proofs.Ytcdmebjggdhhdaa
open Go.ChangeShapes Go.WideShapes Go.ChangeAt Go.RowKit

/-- Number k is dropped, but still in the lists. -/
structure Dr (w : World) (p j : Nat) (K k1 k2 : Nat → Prop) (s : Ar) (R : List Int) (k : Nat) (ws : List (List (Int × Int))) (V : List Value) (v1 v2 : Value) (W : World) : Prop where
  ars : Ars W K p s
  gd : Gd s (delL R k)
  lh : ∀ i, i < R.length → i ≠ k → Lh s (R.getD i 0) (ws.getD i [])
  lenw : ws.length = R.length
  lenV : V.length = R.length
  le : R.length ≤ j + 1
  rg : ∀ i, i < R.length → Rg (ws.getD i []) ∧ (ws.getD i []).length ≤ j
  ids : Lst W w.heap.size k1 v1 R
  want : Own W w.heap.size 42 1 k2 v2 R.length V
  items : ∀ i, i < R.length → Kept1 W (fun x => K x ∧ ¬ k1 x ∧ ¬ k2 x) (V.getD i undef) (ws.getD i [])
  sub1 : ∀ x, k1 x → K x
  sub2 : ∀ x, k2 x → K x
  kK : ∀ x, x < w.heap.size → K x
  bel : Below w.heap.size w W
  mb : s.made - s.busy ≤ 500 * j
  n : s.n ≤ 500
section
variable {w W W' : World} {p j k : Nat} {K k1 k2 kA kB : Nat → Prop} {s : Ar} {R : List Int} {ws : List (List (Int × Int))} {V : List Value} {v1 v2 a b : Value}
theorem del_perm {R : List Int} {k : Nat} (hk : k < R.length) : (R.getD k 0 :: delL R k).Perm R := by
  have e : R = R.take k ++ R.getD k 0 :: R.drop (k + 1) := by
    rw [← drop_getD hk, List.take_append_drop]
  have := (List.perm_middle (a := R.getD k 0) (l₁ := R.take k) (l₂ := R.drop (k + 1))).symm
  unfold delL
  exact this.trans (List.Perm.of_eq e.symm)
theorem PS.undrop (T : PS w p j K k1 k2 s R ws V v1 v2 W) (hk : k < R.length) (h0 : R.getD k 0 = 0) : Dr w p j K k1 k2 s R k ws V v1 v2 W := by
  have g : Gd s (R.getD k 0 :: delL R k) := T.gd.perm' (del_perm hk)
  rw [h0] at g
  exact ⟨T.ars, g.unzero, fun i hi _ => T.lh i hi, T.lenw, T.lenV, T.le, T.rg, T.ids, T.want, T.items, T.sub1, T.sub2, T.kK, T.bel, T.mb, T.n⟩
theorem PS.candrop (T : PS w p j K k1 k2 s R ws V v1 v2 W) (hk : k < R.length) (h0 : R.getD k 0 ≠ 0) : s.drop (R.getD k 0) = ((s.drop (R.getD k 0)).1, 0) := by
  have hr := (T.lh k hk).range
  unfold Ar.drop
  rw [if_neg (T.gd.live (by omega) (by omega) (mem_getD hk))]
theorem PS.drop (T : PS w p j K k1 k2 s R ws V v1 v2 W) (hk : k < R.length) (ha : Ars W' K p (s.drop (R.getD k 0)).1) (hkk : Kept K W W') : Dr w p j K k1 k2 (s.drop (R.getD k 0)).1 R k ws V v1 v2 W' := by
  have g : Gd s (R.getD k 0 :: delL R k) := T.gd.perm' (del_perm hk)
  have hr := (T.lh k hk).range
  have hd1 := drop_busy s (R.getD k 0)
  have hd2 := drop_made s (R.getD k 0)
  have hd3 := drop_n s (R.getD k 0)
  exact ⟨ha, gd_drop g hr.1 (by omega), fun i hi _ => (T.lh i hi).dropg _, T.lenw, T.lenV, T.le, T.rg, T.ids.kept (hkk.mono fun x _ hx => T.sub1 x hx), T.want.kept (hkk.mono fun x _ hx => T.sub2 x hx), fun i hi => (T.items i hi).kept (hkk.mono fun _ _ hx => hx.1), T.sub1, T.sub2, T.kK, T.bel.trans ((hkk.mono fun x _ hx => T.kK x hx).below_of T.bel.size), by rw [hd1, hd2]; exact T.mb, by rw [hd3]; exact T.n⟩
theorem Dr.below (T : Dr w p j K k1 k2 s R k ws V v1 v2 W) (hb : Below W.heap.size W W') : Dr w p j K k1 k2 s R k ws V v1 v2 W' :=
  { T with
    ars := T.ars.below hb
    ids := T.ids.kept (Kept.of_below hb _)
    want := T.want.kept (Kept.of_below hb _)
    items := fun i hi => (T.items i hi).kept (Kept.of_below hb _)
    bel := T.bel.trans (hb.mono T.bel.size) }
theorem getD_del {α : Type} {l : List α} {k i : Nat} {d : α} (hk : k < l.length) : (delL l k).getD i d = l.getD (if i < k then i else i + 1) d := by
  unfold delL
  simp only [List.getD_eq_getElem?_getD]
  by_cases h : i < k
  · rw [if_pos h, List.getElem?_append_left (by simp; omega), List.getElem?_take, if_pos h]
  · rw [if_neg h, List.getElem?_append_right (by simp; omega), List.getElem?_drop]
    congr 2
    simp
    omega
theorem del_length {α : Type} {l : List α} {k : Nat} (hk : k < l.length) : (delL l k).length = l.length - 1 := by
  unfold delL
  simp
  omega
/-- Both lists are put together anew. -/
theorem Dr.join (T : Dr w p j K k1 k2 s R k ws V v1 v2 W) (hk : k < R.length) (h2 : 2 ≤ R.length) (P : Pair2 W w.heap.size (fun _ => False) (fun _ => False) kA kB W') (pa : Lst W' w.heap.size kA a (R.take k ++ R.drop (k + 1))) (pb : Own W' w.heap.size 42 1 kB b (k + (R.length - (k + 1))) (V.take k ++ V.drop (k + 1))) :
    PS w p (j + 1) (fun x => (K x ∨ kA x) ∨ kB x) kA kB s (delL R k) (delL ws k) (delL V k) a b W' := by
  have hb : Below W.heap.size W W' := ⟨P.below.os, P.below.tape, P.below.output, P.size, fun x hx => P.same x hx id id⟩
  have lR := del_length hk
  have lw := del_length (l := ws) (k := k) (by rw [T.lenw]; exact hk)
  have lV := del_length (l := V) (k := k) (by rw [T.lenV]; exact hk)
  have hw := T.lenw
  have hV := T.lenV
  have ix : ∀ i, i < (delL R k).length → (if i < k then i else i + 1) < R.length ∧ (if i < k then i else i + 1) ≠ k := fun i hi => by split <;> omega
  have T2 := T.below hb
  refine ⟨T.ars.step P.size (fun x hx _ => hb.block x hx) (fun x hx => ?_), T.gd, fun i hi => ?_, by omega, by omega, by omega, by have := T.le; omega, fun i hi => ?_, pa, ?_, fun i hi => ?_, fun x hx => .inl (.inr hx), fun x hx => .inr hx, P.apart, fun x hx => .inl (.inl (T.kK x hx)), T2.bel, by have := T.mb; omega, T.n⟩
  · rcases hx with (hx | hx) | hx
    · exact ⟨Nat.lt_of_lt_of_le (T.ars.lt x hx) P.size, .inl hx⟩
    · refine ⟨P.lt1 x hx, .inr ?_⟩
      rcases P.new1 x hx with y | y
      · exact y.elim
      · exact y
    · refine ⟨P.lt2 x hx, .inr ?_⟩
      rcases P.new2 x hx with y | y
      · exact y.elim
      · exact y
  · obtain ⟨i1, i2⟩ := ix i hi
    rw [getD_del hk, getD_del (by omega)]
    exact T.lh _ i1 i2
  · obtain ⟨i1, i2⟩ := ix i hi
    rw [getD_del (by omega)]
    have := T.rg _ i1
    exact ⟨this.1, by omega⟩
  · rw [show (delL R k).length = k + (R.length - (k + 1)) by omega]
    exact pb
  · obtain ⟨i1, i2⟩ := ix i hi
    rw [getD_del (by omega), getD_del (by omega)]
    refine (T2.items _ i1).into fun x hx => ?_
    have h1 := ((T2.items _ i1).sub x hx).1
    have h2 := T.ars.lt x h1
    refine ⟨.inl (.inl h1), fun e => ?_, fun e => ?_⟩
    · rcases P.new1 x e with y | y
      · exact y
      · omega
    · rcases P.new2 x e with y | y
      · exact y
      · omega
/-- The last one is taken out: the empty list stands there. -/
theorem Dr.last (T : Dr w p j K k1 k2 s R k ws V v1 v2 W) (h1 : R.length = 1) (hk : k < R.length) (hb : Below W.heap.size W W') : ∃ K' k1' k2' s' R' ws' V', PS w p (j + 1) K' k1' k2' s' R' ws' V' (.slice (some ⟨W'.heap.size, 0, none⟩) 1 1) (.slice (some ⟨W'.heap.size + 1, 0, none⟩) 1 1)
      ((W'.alloc (.cells #[.int .i64 0] 3)).alloc (.cells #[.slice none 0 0] 42)) := by
  have T2 := T.below hb
  have e : delL R k = [] := List.length_eq_zero_iff.1 (by rw [del_length hk]; omega)
  have g := T2.gd
  rw [e] at g
  exact ⟨_, _, _, _, _, _, _, ps_one (j := j + 1) T2.ars g T2.kK T2.bel (by have := T2.mb; omega) T2.n⟩
end
end Go.Proofs.Ytcdmebjggdhhdaa
namespace Go.Proofs.Ytcdmebjggdhhdaa
open Go.RowKit

section
variable {P : Program} {ops : Array Oper} {Q : Exit → Act → World → Prop}
theorem both {a0 : Act} {w0 : World} {d e i j m : Nat} {L : Bool → Bool → Array Bool} {S : World → Prop} {P1 P2 : Value → World → Prop}
    (hde : d ≠ e) (hS : ∀ w, Below w0.heap.size w0 w → S w)
    (r00 : Region.ready .any ops (L false false) = [i, j]) (r10 : Region.ready .any ops (L true false) = [j]) (r01 : Region.ready .any ops (L false true) = [i])
    (s1 : ∀ t, (L false t).setIfInBounds i true = L true t) (s2 : ∀ t, (L t false).setIfInBounds j true = L t true)
    (st1 : ∀ v w w', P1 v w → Below w.heap.size w w' → P1 v w') (st2 : ∀ v w w', P2 v w → Below w.heap.size w w' → P2 v w')
    (h1 : ∀ (a : Act) (w : World) (K : Act → World → Prop), (∀ t, t ≠ d → t ≠ e → a.tmps.getD t undef = a0.tmps.getD t undef) → Below w0.heap.size w0 w → (∀ v w', P1 v w' → Below w.heap.size w w' → K (a.put (some d) v) w') → wpOp P ops Q i K a w)
    (h2 : ∀ (a : Act) (w : World) (K : Act → World → Prop), (∀ t, t ≠ d → t ≠ e → a.tmps.getD t undef = a0.tmps.getD t undef) → Below w0.heap.size w0 w → (∀ v w', P2 v w' → Below w.heap.size w w' → K (a.put (some e) v) w') → wpOp P ops Q j K a w)
    (hfin : ∀ v u w, P1 v w → P2 u w → Below w0.heap.size w0 w → wpAnyH P .any ops Q S m (L true true) ((a0.put (some d) v).put (some e) u) w) :
    wpAnyH P .any ops Q S (2 + m) (L false false) a0 w0 := by
  rw [show 2 + m = (m + 1) + 1 by omega]
  refine wpAnyH_all r00 (by simp) fun x hx => ?_
  have hx' : x = i ∨ x = j := by simpa using hx
  rcases hx' with rfl | rfl
  · refine h1 a0 w0 _ (fun _ _ _ => rfl) (Below.refl _ _) fun v w' p b => ⟨hS _ b, ?_⟩
    rw [s1]
    refine wpAnyH_all r10 (by simp) fun y hy => ?_
    have hy' : y = j := by simpa using hy
    subst hy'
    refine h2 _ w' _ (fun t n1 n2 => put_get (Ne.symm n1) v) b fun u w'' p2 b2 => ⟨hS _ (b.trans (b2.mono b.size)), ?_⟩
    rw [s2]
    exact hfin v u w'' (st1 _ _ _ p b2) p2 (b.trans (b2.mono b.size))
  · refine h2 a0 w0 _ (fun _ _ _ => rfl) (Below.refl _ _) fun u w' p b => ⟨hS _ b, ?_⟩
    rw [s2]
    refine wpAnyH_all r01 (by simp) fun y hy => ?_
    have hy' : y = i := by simpa using hy
    subst hy'
    refine h1 _ w' _ (fun t n1 n2 => put_get (Ne.symm n2) u) b fun v w'' p2 b2 => ⟨hS _ (b.trans (b2.mono b.size)), ?_⟩
    rw [s1]
    have : ((a0.put (some e) u).put (some d) v) = ((a0.put (some d) v).put (some e) u) := Act.put_comm a0 (x := some e) (y := some d) u v fun t h1 h2 => hde (Option.some.inj (h2.trans h1.symm))
    rw [this]
    exact hfin v u w'' p2 (st2 _ _ _ p b2) (b.trans (b2.mono b.size))
theorem opAt {i : Nat} {o : Oper} {K : Act → World → Prop} {a : Act} {w : World} (ho : ops[i]? = some o) (hw : Region.wanted o (yielded ops a.tmps) = true) (h : o.wp P a w K Q) : wpOp P ops Q i K a w := by
  unfold wpOp
  simp only [ho, hw, if_true]
  exact .inl h
theorem takeP {S : World → Prop} {md : Region.Mode} {i : Nat} {oi : Oper} {v : Value} {d : Option Tmp} {fuel : Nat} {listed : Array Bool} {a : Act} {w : World} (hi : ops[i]? = some oi) (hd : oi.dst = d)
    (hs : Region.noSelect ops = true) (hf : Region.free md ops listed i = true) (hr : (Region.ready md ops listed).contains i = true)
    (hQ : ∀ c a w, Q (.panic c) (a.put d v) w → Q (.panic c) a w) (hw : Region.wanted oi (yielded ops a.tmps) = true) (hy : ∀ w, S w → (execOp a.eval oi).run P w = .ok (.value v) w) (hS : S w)
    (h : wpAnyH P md ops Q S fuel (listed.setIfInBounds i true) (a.put d v) w) : wpAnyH P md ops Q S (fuel + 1) listed a w := by
  subst hd
  exact wpAnyH_take hi hs hf hr hQ (.inl ⟨hw, hy⟩) hS h
/-- The only one that is ready. -/
theorem oneOp {S : World → Prop} {i fuel : Nat} {listed : Array Bool} {a : Act} {w : World} (hr : Region.ready .any ops listed = [i]) (h : wpOp P ops Q i (fun a' w' => S w' ∧ wpAnyH P .any ops Q S fuel (listed.setIfInBounds i true) a' w') a w) : wpAnyH P .any ops Q S (fuel + 1) listed a w :=
  wpAnyH_all hr (by simp) fun x hx => by
    have hx' : x = i := by simpa using hx
    subst hx'
    exact h
end
theorem grew_below {w0 w w' : World} {B : Nat} {k k' : Nat → Prop} (h : Below w0.heap.size w0 w) (g : Grew w w' B k k') (hk : ∀ x, k x → w0.heap.size ≤ x) : Below w0.heap.size w0 w' :=
  ⟨g.below.os.trans h.os, g.below.tape.trans h.tape, g.below.output.trans h.output, Nat.le_trans h.size g.size, fun b hb => (g.same b (Nat.lt_of_lt_of_le hb h.size) fun e => by have := hk b e; omega).trans (h.block b hb)⟩
theorem grew_fresh {w0 w w' : World} {B : Nat} {k k' : Nat → Prop} (h : w0.heap.size ≤ w.heap.size) (g : Grew w w' B k k') (hk : ∀ x, k x → w0.heap.size ≤ x) : ∀ x, k' x → w0.heap.size ≤ x ∧ x < w'.heap.size := fun x hx => by
  obtain ⟨h1, h2⟩ := g.new x hx
  rcases h2 with h2 | h2
  · exact ⟨hk x h2, h1⟩
  · exact ⟨by omega, h1⟩
end Go.Proofs.Ytcdmebjggdhhdaa
namespace Go.Proofs.Ytcdmebjggdhhdaa
open Go.ChangeShapes Go.WideShapes Go.ChangeAt Go.RowKit

theorem items_app (a b : List (Int × Int)) : itemCells (a ++ b) = itemCells a ++ itemCells b := by simp [itemCells]
theorem items_cons (x : Int × Int) (b : List (Int × Int)) : itemCells (x :: b) = [.int .i64 x.1, .int .i64 x.2] ++ itemCells b := rfl
theorem items_take : ∀ (l : List (Int × Int)) (k : Nat), itemCells (l.take k) = (itemCells l).take (k * 2)
  | [], k => by simp [itemCells]
  | x :: r, 0 => by simp [itemCells]
  | x :: r, k + 1 => by
    rw [List.take_succ_cons, items_cons, items_cons, items_take r k, show (k + 1) * 2 = k * 2 + 2 by omega]
    rfl
theorem items_drop : ∀ (l : List (Int × Int)) (k : Nat), itemCells (l.drop k) = (itemCells l).drop (k * 2)
  | [], k => by simp [itemCells]
  | x :: r, 0 => by simp [itemCells]
  | x :: r, k + 1 => by
    rw [List.drop_succ_cons, items_cons, items_drop r k, show (k + 1) * 2 = k * 2 + 2 by omega]
    rfl
theorem items_ins (l : List (Int × Int)) (k : Nat) (x y : Int) : ((itemCells l).take (k * 2) ++ [.int .i64 x, .int .i64 y]) ++ (itemCells l).drop (k * 2) = itemCells (insL l k (x, y)) := by
  unfold insL
  rw [items_app, items_cons, items_take, items_drop, List.append_assoc]
theorem items_del (l : List (Int × Int)) (k : Nat) : (itemCells l).take (k * 2) ++ (itemCells l).drop ((k + 1) * 2) = itemCells (delL l k) := by
  unfold delL
  rw [items_app, items_take, items_drop]
theorem items_one (l : List (Int × Int)) (hc : ∀ u ∈ itemCells l, u.oneCell' = true) (k : Nat) : (∀ u ∈ (itemCells l).take k, u.oneCell' = true) ∧ ∀ u ∈ (itemCells l).drop k, u.oneCell' = true :=
  ⟨fun u hu => hc u (List.mem_of_mem_take hu), fun u hu => hc u (List.mem_of_mem_drop hu)⟩
theorem items_cell (l : List (Int × Int)) : ∀ u ∈ itemCells l, u.oneCell' = true := by
  intro u hu
  obtain ⟨x, _, hx⟩ := List.mem_flatMap.1 hu
  simp at hx
  rcases hx with rfl | rfl <;> rfl
theorem items_set : ∀ {l : List (Int × Int)} {i : Nat} {x y : Int}, i < l.length → ((itemCells l).set (i * 2) (.int .i64 x)).set (i * 2 + 1) (.int .i64 y) = itemCells (setL l i (x, y))
  | [], i, _, _, h => absurd h (Nat.not_lt_zero _)
  | a :: r, 0, x, y, _ => by
    rw [items_cons]
    show _ = itemCells ((a :: r).take 0 ++ (x, y) :: (a :: r).drop 1)
    rfl
  | a :: r, i + 1, x, y, h => by
    have ih := items_set (l := r) (i := i) (x := x) (y := y) (by simpa using h)
    have e : setL (a :: r) (i + 1) (x, y) = a :: setL r i (x, y) := rfl
    rw [e, items_cons, items_cons, ← ih, show (i + 1) * 2 = i * 2 + 1 + 1 by omega]
    rfl
theorem own_set {W : World} {B n c g : Nat} {K : Nat → Prop} {cs : List Value} {e : TypeId} {size : Nat} (h : Own W B e size K (.slice (some ⟨g, 0, none⟩) n c) n cs) (j : Nat) (u : Value) : Own (W.setCell ⟨g, j, none⟩ u) B e size K (.slice (some ⟨g, 0, none⟩) n c) n (cs.set j u) ∧ W.frozen? ⟨g, j, none⟩ = false := by
  obtain ⟨⟨h1, h2⟩, h3⟩ := h
  rcases h2 with ⟨e, _⟩ | ⟨g', cap, cur, e, hg, hh, hl, hm, hs, ht⟩
  · cases e
  · cases e
    have hh' := heap_setCell_same W g j cur _ u hh
    refine ⟨⟨⟨by rw [List.length_set]; exact h1, .inr ⟨g, c, _, rfl, hg, hh', hl, hm, by simpa using hs, ?_⟩⟩, h3⟩, frozen_of_row _ _ _ _ _ hh⟩
    rw [Array.toList_setIfInBounds, List.take_set, ht]
theorem own_two {W : World} {B n : Nat} {K : Nat → Prop} {cs : List Value} {v : Value} (h : Own W B 30 2 K v n cs) {i : Nat} (hi : i < n) (x y : Int) (hl : cs.length = n * 2) :
    ∃ g c, v = .slice (some ⟨g, 0, none⟩) n c ∧ n ≤ c ∧ K g ∧ g < W.heap.size ∧ ((∃ u, W.cell? ⟨g, i * 2, none⟩ = some u) ∧ ∃ u, W.cell? ⟨g, i * 2 + 1, none⟩ = some u) ∧ (W.frozen? ⟨g, i * 2, none⟩ = false ∧ W.frozen? ⟨g, i * 2 + 1, none⟩ = false) ∧
      Own ((W.setCell ⟨g, i * 2, none⟩ (.int .i64 x)).setCell ⟨g, i * 2 + 1, none⟩ (.int .i64 y)) B 30 2 K v n ((cs.set (i * 2) (.int .i64 x)).set (i * 2 + 1) (.int .i64 y)) := by
  obtain ⟨g, c, rfl, hc, hk, hg, hj⟩ := h.at_ (by omega)
  obtain ⟨o1, f1⟩ := own_set h (i * 2) (.int .i64 x)
  obtain ⟨o2, _⟩ := own_set o1 (i * 2 + 1) (.int .i64 y)
  obtain ⟨_, f2⟩ := own_set h (i * 2 + 1) (.int .i64 y)
  exact ⟨g, c, rfl, hc, hk, hg, ⟨⟨_, hj (i * 2) _ (List.getElem?_eq_getElem (by omega))⟩, ⟨_, hj (i * 2 + 1) _ (List.getElem?_eq_getElem (by omega))⟩⟩, ⟨f1, f2⟩, o2⟩
end Go.Proofs.Ytcdmebjggdhhdaa
