/- Rows stay while they are had, whatever is dropped and freed; where enough is freed none waits. -/
import Derived.Test.YtdipgcbppggdhaaGpB
import Derived.Test.YtdipgcbppggdhaaGpF
import Derived.Test.YtdipgcbppggdhaaGpA
import Derived.Test.YtdipgcbppggdhaaGpR
namespace Go.Proofs.Ytdipgcbppggdhaa
set_option maxRecDepth 100000
open Go.RowKit

theorem brep_congr {s s' : Ar} (hn : s'.n = s.n) (hu : s'.u = s.u) (hd : s'.nd = s.nd) : ∀ {t : BT} {h : Int}, BRep s h t → BRep s' h t
  | .nil, _, r => r
  | .leaf l, h, ⟨r1, r2, r3, r4, r5⟩ => ⟨r1, by rw [hn]; exact r2, by rw [hu]; exact r3, by rw [hd]; exact r4, r5⟩
  | .fork l r, h, ⟨r1, r2, r3, k0, k1, r4, r5, r6⟩ => ⟨r1, by rw [hn]; exact r2, by rw [hu]; exact r3, k0, k1, by rw [hd]; exact r4, brep_congr hn hu hd r5, brep_congr hn hu hd r6⟩
theorem gd_free1 {s : Ar} {L : List Int} (g : Gd s L) {i : Int} {r : List Int} (hw : s.wt = i :: r) : Gd (s.free1 i r) L := by
  have := gd_work g 1
  unfold Ar.work at this
  rw [hw] at this
  exact this
theorem brep_pop {s : Ar} {L : List Int} (g : Gd s L) {i : Int} {r : List Int} (hw : s.wt = i :: r) : ∀ {t : BT} {h : Int}, BRep s h t → (1 ≤ h → s.count h ≠ 0) → BRep (s.pop i r) h t
  | .nil, _, x, _ => x
  | .leaf l, h, ⟨r1, r2, r3, r4, r5⟩, hc => by
    obtain ⟨B, ok⟩ := g.ok
    obtain ⟨i1, i2, _, i4⟩ := ok.wt i (by rw [hw]; simp)
    have ne : h.toNat ≠ i.toNat := fun e => by
      have : s.count h = s.c h.toNat := if_neg (by omega)
      exact hc r1 (by rw [this, e, i4])
    exact ⟨r1, r2, (upd_ne _ _ ne).trans r3, (upd_ne _ _ ne).trans r4, r5⟩
  | .fork a b, h, ⟨r1, r2, r3, k0, k1, r4, r5, r6⟩, hc => by
    obtain ⟨B, ok⟩ := g.ok
    obtain ⟨i1, i2, _, i4⟩ := ok.wt i (by rw [hw]; simp)
    have ne : h.toNat ≠ i.toNat := fun e => by
      have : s.count h = s.c h.toNat := if_neg (by omega)
      exact hc r1 (by rw [this, e, i4])
    have hk : (s.nd h.toNat).kids = [k0, k1, 0, 0] := by rw [r4]; rfl
    exact ⟨r1, r2, (upd_ne _ _ ne).trans r3, k0, k1, (upd_ne _ _ ne).trans r4, brep_pop g hw r5 fun p => (g.kid r1 r2 r3 (k := k0) (by rw [hk]; simp) p).2, brep_pop g hw r6 fun p => (g.kid r1 r2 r3 (k := k1) (by rw [hk]; simp) p).2⟩
theorem brep_work {L : List Int} {t : BT} {h : Int} (hm : h = 0 ∨ h ∈ L) : ∀ (m : Nat) {s : Ar}, Gd s L → BRep s h t → BRep (s.work m).1 h t
  | 0, _, _, r => r
  | m + 1, s, g, r => by
    unfold Ar.work
    split
    · exact r
    · rename_i i rr hw
      refine brep_work hm m (gd_free1 g hw) ?_
      rw [free1_eq]
      refine brep_congr (drops_n _ _) (drops_u _ _) (drops_nd _ _) (brep_pop g hw r fun p => ?_)
      rcases hm with rfl | hm
      · omega
      · exact g.live p r.range.2 hm
section
variable {s : Ar} {L : List Int} {h : Int} {xs : List Bool}
theorem Row.work (r : Row s L h xs) (g : Gd s L) (m : Nat) : Row (s.work m).1 L h xs := by
  obtain ⟨t, a, b, c⟩ := r
  exact ⟨t, brep_work b m g a, b, c⟩
theorem Row.drop {L' : List Int} (r : Row s L h xs) (i : Int) (hm : h = 0 ∨ h ∈ L') : Row (s.drop i).1 L' h xs := by
  obtain ⟨t, a, b, c⟩ := r
  exact ⟨t, a.ext (ext_drop s i), hm, c⟩
/-- Its nodes are reached, and no more than its length says. -/
theorem Row.tree (r : Row s L h xs) : ∃ t : BT, BRep s h t ∧ (h = 0 ∨ h ∈ L) ∧ t.Fine ∧ t.list = xs ∧ t.nodes ≤ 1 + xs.length / 8 ∧ t.high ≤ hi xs.length := by
  obtain ⟨t, a, b, c, rfl, e⟩ := r
  exact ⟨t, a, b, c, rfl, by rw [t.len_list]; exact c.nodes, by rw [t.len_list]; exact c.hi⟩
end
theorem usedN_pos' {n : Nat} {u : Nat → Bool} {i : Nat} (h1 : 1 ≤ i) (h2 : i ≤ n) (hu : u i = true) : 1 ≤ usedN n u := by
  unfold usedN
  refine List.length_pos_of_mem (a := i - 1) (List.mem_filter.2 ⟨List.mem_range.2 (by omega), ?_⟩)
  rw [show i - 1 + 1 = i by omega]; exact hu
/-- Where more is freed than is used none waits. -/
theorem work_none {L : List Int} : ∀ (m : Nat) (s : Ar), Gd s L → s.busy ≤ m → (s.work m).1.wt = []
  | 0, s, g, hb => by
    show s.wt = []
    obtain ⟨B, ok⟩ := g.ok
    cases hw : s.wt with
    | nil => rfl
    | cons h r =>
      obtain ⟨h1, h2, h3, _⟩ := ok.wt h (by rw [hw]; simp)
      have := usedN_pos' (n := s.n) (i := h.toNat) (by omega) (by omega) h3
      have := ok.busy
      omega
  | m + 1, s, g, hb => by
    unfold Ar.work
    cases hw : s.wt with
    | nil => exact hw
    | cons h r =>
      refine work_none m _ (gd_free1 g hw) ?_
      rw [free1_eq, drops_busy]
      show s.busy - 1 ≤ m
      omega
theorem work_busy (m : Nat) (s : Ar) : (s.work m).1.busy = s.busy - (s.work m).2 := by
  induction m generalizing s with
  | zero => show s.busy = s.busy - (0 : Nat); omega
  | succ m ih =>
    unfold Ar.work
    split
    · show s.busy = s.busy - (0 : Nat); omega
    · rename_i i r hw
      have := ih (s.free1 i r)
      have e : (s.free1 i r).busy = s.busy - 1 := by rw [free1_eq, drops_busy]; rfl
      simp only
      omega
theorem work_made (m : Nat) (s : Ar) : (s.work m).1.made = s.made := by
  induction m generalizing s with
  | zero => rfl
  | succ m ih =>
    unfold Ar.work
    split
    · rfl
    · rename_i i r hw
      refine (ih (s.free1 i r)).trans ?_
      rw [free1_eq, drops_made]
      rfl
theorem work_nn (m : Nat) (s : Ar) : (s.work m).1.n = s.n := by
  induction m generalizing s with
  | zero => rfl
  | succ m ih =>
    unfold Ar.work
    split
    · rfl
    · rename_i i r hw
      exact (ih (s.free1 i r)).trans (by rw [free1_eq, drops_n]; rfl)
end Go.Proofs.Ytdipgcbppggdhaa
namespace Go.Proofs.Ytdipgcbppggdhaa
set_option maxRecDepth 100000
open Go.RowKit
theorem bl_small {m : Nat} (h : m ≤ 1000) : bl m ≤ 10 := by
  have h1 : bl m ≤ 10 ∨ 10 < bl m := by omega
  rcases h1 with h1 | h1
  · exact h1
  · have h2 := (bl_is m).2 10 h1
    rw [show (2 : Nat) ^ 10 = 1024 from rfl] at h2
    omega
theorem pow_val {k : Nat} (h : k ≤ 10) : ∃ P : Nat, P = 2 ^ k ∧ wrap64 (2 ^ min k 64) = (P : Int) ∧ wrap64 (2 ^ k) = (P : Int) := by
  have h1 : (2 : Nat) ^ k ≤ 2 ^ 10 := Nat.pow_le_pow_right (by omega) h
  rw [show (2 : Nat) ^ 10 = 1024 from rfl] at h1
  have h2 : ((2 ^ k : Nat) : Int) = (2 : Int) ^ k := by simp
  refine ⟨2 ^ k, rfl, ?_⟩
  rw [show min k 64 = k by omega, ← h2]
  generalize 2 ^ k = P at *
  have := IntWalk.wrap64_in (P : Int) (by omega)
  exact ⟨this, this⟩
set_option maxHeartbeats 2000000 in
theorem made_num (n : Nat) (hn : n ≤ 10000) (w : World) : Calls Try.prog 27 #[.int .i64 n] w fun e w' => e = .returned (.int .i64 (4 + 4 * bl (n / 16) : Nat)) ∧ w = w' := by
  have hn' : (n : Int) ≤ 10000 := by omega
  obtain ⟨m, hm⟩ : ∃ m, m = n / 16 := ⟨_, rfl⟩
  have hq : (n : Int) / 16 = (m : Int) := by rw [hm]; rfl
  have hb := Lib.hid (bl_is m)
  have hs := bl_small (m := m) (by omega)
  rw [← hm]
  have Hm := Lib.hid hm
  clear hm
  go_enter Try.func27, Try.ntmps27
  go_wp2_with fail
  go_loopw [3] (fun h W => ∃ k : Nat, h = .int .i64 k ∧ k ≤ bl m ∧ W = w) (fun h _ => bl m - (intOf h).toNat)
  case atStart => exact ⟨0, rfl, Nat.zero_le _, rfl⟩
  case round =>
    obtain ⟨k, rfl, hk, rfl⟩ := hrel
    obtain ⟨P, hP, e1, e2⟩ := pow_val (k := k) (by omega)
    by_cases hlt : k < bl m
    · have h2 := hb.out.2 k hlt
      have h3 : (P : Int) ≤ (m : Int) := by omega
      have hkI : (k : Int) ≤ 10 := by omega
      clear hP
      go_wp2_with fail
      go_roundw
      case rel => exact ⟨k + 1, by go_num, by omega, by first | rfl | trivial⟩
      case measure => simp [intOf]; omega
    · obtain rfl : k = bl m := by omega
      have h2 := hb.out.1
      have h3 : (m : Int) < (P : Int) := by omega
      have hkI : ((bl m : Nat) : Int) ≤ 10 := by omega
      have h5 : wrap64 (4 * ((bl m : Nat) : Int)) = 4 * (bl m : Nat) := IntWalk.wrap64_in _ (by omega)
      have h6 : wrap64 (4 + 4 * ((bl m : Nat) : Int)) = 4 + 4 * (bl m : Nat) := IntWalk.wrap64_in _ (by omega)
      clear hP h2 hb hk hlt
      go_wp2_with fail
      go_ret
      exact ⟨by first | rfl | (push_cast; rfl), rfl⟩
end Go.Proofs.Ytdipgcbppggdhaa
namespace Go.Proofs.Ytdipgcbppggdhaa
set_option maxRecDepth 100000
open Go.RowKit
section
variable {w w' : World} {K : Nat → Prop} {p : Nat} {s s' : Ar} {L L' : List Int} {h : Int} {xs : List Bool}
theorem bInsert_hi {one : Bool} {i : Nat} (g : Gd s L) (r : Row s L h xs) (hi' : i ≤ xs.length) (hx : xs.length < 5000) (hL : L.length ≤ 400000) (hm : s.made - s.busy ≤ 1000000000) : ∃ s' e' q, Went s s' (3 * hi xs.length + 1) ∧ EOk s' e' ∧ Gd s' (q :: L) ∧ (e' ≠ 0 → q = 0) ∧ (e' = 0 → Row s' (q :: L) q (bIns xs i one)) ∧
    ∀ {K : Nat → Prop} {p : Nat} {w : World}, Ars w K p s → Calls Try.prog 50 #[.pointer (some ⟨p, 0, none⟩), .int .i64 h, .int .i64 i, .bool one] w fun o w' => o = .returned (.tuple #[.int .i64 q, .int .i64 e']) ∧ Ars w' K p s' ∧ Kept K w w' := by
  obtain ⟨t, a, b, c, rfl, e⟩ := r
  rw [t.len_list] at hi' hx ⊢
  have hh := c.high16
  have hh2 := c.hi
  obtain ⟨s', e', q, hI, R⟩ := ins_ex (one := one) t i s (0 :: L) h g.zero hm (by simp; omega) a (firm_zero b) c hi' (by omega) (by omega)
  obtain ⟨v, hv, vl, _, _⟩ := vw_any a g.zero (firm_zero b) (by omega)
  have sn : Snd s := g.snd (by omega) hm
  obtain ⟨f1, f2, f3⟩ := binsert_fine c hi' one
  refine ⟨s', e', q, R.went.mono (by omega), R.eok, (R.gd.swap).unzero, R.zero, fun e0 => ⟨binsert t i one, R.hd.1 e0, .inr List.mem_cons_self, f1, f2, ?_⟩, fun ha => bInsert_walk hI R.zero hv (by omega) sn ha⟩
  rw [← BT.len_list, f2, bIns_len (by rw [t.len_list]; exact hi'), t.len_list]
  omega
theorem bInsert_sure {one : Bool} {i : Nat} (g : Gd s L) (r : Row s L h xs) (hi' : i ≤ xs.length) (hx : xs.length < 5000) (hL : L.length ≤ 400000) (hm : s.made - s.busy ≤ 1000000000) (room : s.busy + (3 * hi xs.length + 1 : Nat) < s.n) : ∃ s' q, Went s s' (3 * hi xs.length + 1) ∧ Gd s' (q :: L) ∧ Row s' (q :: L) q (bIns xs i one) ∧
    ∀ {K : Nat → Prop} {p : Nat} {w : World}, Ars w K p s → Calls Try.prog 50 #[.pointer (some ⟨p, 0, none⟩), .int .i64 h, .int .i64 i, .bool one] w fun o w' => o = .returned (.tuple #[.int .i64 q, .int .i64 0]) ∧ Ars w' K p s' ∧ Kept K w w' := by
  obtain ⟨s', e', q, a1, a2, a3, _, a5, a6⟩ := bInsert_hi (one := one) g r hi' hx hL hm
  have e0 : e' = 0 := by
    rcases a2 with a2 | ⟨_, a2⟩
    · exact a2
    · obtain ⟨k, hk, _, hb⟩ := a1.made
      have := a1.ext.n
      omega
  subst e0
  exact ⟨s', q, a1, a3, a5 rfl, a6⟩
end
theorem Lst.one {w : World} {K : Nat → Prop} {B : Nat} (y : Int) (hB : B ≤ w.heap.size) : Lst (w.alloc (.cells #[.int .i64 y] 3)) B (fun b => K b ∨ b = w.heap.size) (.slice (some ⟨w.heap.size, 0, none⟩) 1 1) [y] :=
  ⟨⟨rfl, .inr ⟨w.heap.size, 1, #[.int .i64 y], rfl, hB, heap_alloc_new _ _, by simp, by unfold maxLen; omega, rfl, rfl⟩⟩, fun g e => by cases e; exact .inr rfl⟩
theorem lst_cell {w : World} {B : Nat} {K : Nat → Prop} {g n c : Nat} {xs : List Int} (h : Lst w B K (.slice (some ⟨g, 0, none⟩) n c) xs) {j : Nat} (hj : j < xs.length) : w.cell? ⟨g, j, none⟩ = some (.int .i64 (xs.getD j 0)) := by
  obtain ⟨g', c', e, _, _, hc⟩ := h.at_ hj
  cases e
  exact hc j hj
end Go.Proofs.Ytdipgcbppggdhaa
