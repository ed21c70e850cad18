/- A bit is taken out: what comes of it. -/
import Derived.Test.YtdipgcbppggdhaaBw22
import Derived.Test.YtdipgcbppggdhaaGpF
import Derived.Test.YtdipgcbppggdhaaGpG
import Derived.Test.YtdipgcbppggdhaaGpJ
namespace Go.Proofs.Ytdipgcbppggdhaa
set_option maxRecDepth 100000
open Go.RowKit
section
variable {w w' : World} {K : Nat → Prop} {p : Nat} {s s' : Ar} {L L' : List Int} {h : Int} {xs : List Bool}
theorem bDelete_ex {i : Nat} (g : Gd s L) (r : Row s L h xs) (hi : i < xs.length) (hL : L.length ≤ 400000) (hm : s.made - s.busy ≤ 1000000000) : ∃ s' e' q, Went s s' (3 * (xs.length / 16 + 1)) ∧ EOk s' e' ∧ Gd s' (q :: L) ∧ (e' ≠ 0 → q = 0) ∧ (e' = 0 → Row s' (q :: L) q (bDel xs i)) ∧
    ∀ {K : Nat → Prop} {p : Nat} {w : World}, Ars w K p s → Calls Try.prog 53 #[.pointer (some ⟨p, 0, none⟩), .int .i64 h, .int .i64 i] w fun o w' => o = .returned (.tuple #[.int .i64 q, .int .i64 e']) ∧ Ars w' K p s' ∧ Kept K w w' := by
  obtain ⟨t, a, b, c, rfl, e⟩ := r
  rw [t.len_list] at hi ⊢
  have hh := c.high16
  obtain ⟨s', e', q, hI, R⟩ := cut_ex t i s (0 :: L) h g.zero hm (by simp; omega) a (firm_zero b) c hi (by omega) (by omega)
  obtain ⟨v, hv, vl, _, _⟩ := vw_any a g.zero (firm_zero b) (by omega)
  have sn : Snd s := g.snd (by omega) hm
  obtain ⟨f1, f2⟩ := bcut_fine c hi
  refine ⟨s', e', q, R.went.mono (by omega), R.eok, (R.gd.swap).unzero, R.zero, fun e0 => ⟨bcut t i, R.hd.1 e0, .inr List.mem_cons_self, f1, f2, ?_⟩, fun ha => bDelete_walk hI R.zero hv (by omega) sn ha⟩
  have := bDel_len (l := t.list) (i := i) (by rw [t.len_list]; exact hi)
  rw [← BT.len_list, f2]
  rw [t.len_list] at this
  omega
/-- A bit is taken out where there is room. -/
theorem bDelete_yes {i : Nat} (g : Gd s L) (r : Row s L h xs) (hi : i < xs.length) (hL : L.length ≤ 400000) (hm : s.made - s.busy ≤ 1000000000) (room : s.busy + (3 * (xs.length / 16 + 1) : Nat) < s.n) : ∃ s' q, Went s s' (3 * (xs.length / 16 + 1)) ∧ Gd s' (q :: L) ∧ Row s' (q :: L) q (bDel xs i) ∧
    ∀ {K : Nat → Prop} {p : Nat} {w : World}, Ars w K p s → Calls Try.prog 53 #[.pointer (some ⟨p, 0, none⟩), .int .i64 h, .int .i64 i] w fun o w' => o = .returned (.tuple #[.int .i64 q, .int .i64 0]) ∧ Ars w' K p s' ∧ Kept K w w' := by
  obtain ⟨s', e', q, a1, a2, a3, _, a5, a6⟩ := bDelete_ex g r hi hL hm
  have e0 : e' = 0 := by
    rcases a2 with a2 | ⟨_, a2⟩
    · exact a2
    · obtain ⟨k, hk, _, hb⟩ := a1.made
      have := a1.ext.n
      omega
  subst e0
  exact ⟨s', q, a1, a3, a5 rfl, a6⟩
theorem bDelete_none {i : Int} (g : Gd s L) (r : Row s L h xs) (hi : i < 0 ∨ (xs.length : Int) ≤ i) (sn : Snd s) (ha : Ars w K p s) :
    Calls Try.prog 53 #[.pointer (some ⟨p, 0, none⟩), .int .i64 h, .int .i64 i] w fun o w' => o = .returned (.tuple #[.int .i64 0, .int .i64 3]) ∧ Ars w' K p s ∧ Below w.heap.size w w' := by
  obtain ⟨t, a, b, c, rfl, e⟩ := r
  obtain ⟨v, hv, vl, _, _⟩ := vw_any a g.zero (firm_zero b) (by omega)
  rw [t.len_list, ← vl] at hi
  exact bDelete_no hv hi sn.fit ha
end
end Go.Proofs.Ytdipgcbppggdhaa
namespace Go.Proofs.Ytdipgcbppggdhaa
set_option maxRecDepth 100000
open Go.RowKit
/-- The handle h, which is had or a kid, stands for the bits xs. -/
def FRow (s : Ar) (L : List Int) (h : Int) (xs : List Bool) : Prop := ∃ t : BT, BRep s h t ∧ BFirm s L h ∧ t.Fine ∧ t.list = xs ∧ t.len ≤ 5000
section
variable {w w' : World} {K : Nat → Prop} {p : Nat} {s s' : Ar} {L L' : List Int} {h : Int} {xs : List Bool}
theorem flen_row (g : Gd s L) (sn : Snd s) (r : FRow s L h xs) (ha : Ars w K p s) :
    Calls Try.prog 34 #[.pointer (some ⟨p, 0, none⟩), .int .i64 h] w fun r w' => r = .returned (.int .i64 xs.length) ∧ Below w.heap.size w w' := by
  obtain ⟨t, a, b, c, rfl, e⟩ := r
  obtain ⟨v, hv, vl, _, _⟩ := vw_any a g b (by omega)
  refine (blen_is hv ha sn.fit).mono ?_
  rintro e w' ⟨rfl, _, hb⟩
  rw [vl, t.len_list]
  exact ⟨rfl, hb⟩
theorem fget_row {i : Nat} (g : Gd s L) (sn : Snd s) (r : FRow s L h xs) (ha : Ars w K p s) (hi : i < xs.length) :
    Calls Try.prog 35 #[.pointer (some ⟨p, 0, none⟩), .int .i64 h, .int .i64 i] w fun e w' => e = .returned (.tuple #[.bool (xs.getD i false), .bool true]) ∧ Below w.heap.size w w' := by
  obtain ⟨t, a, b, c, rfl, e⟩ := r
  have hi' : i < t.len := by rw [← t.len_list]; exact hi
  have hn : t.isNil = false := by
    cases ht : t.isNil
    · rfl
    · have := c.nil_iff.1 ht
      omega
  refine (bget_is g sn ⟨ha, Below.refl _ _, a, b, c.solid hn, by omega, Nat.le_refl _⟩ hi').mono ?_
  rintro e w' ⟨rfl, _, hb⟩
  exact ⟨rfl, hb⟩
theorem frank_row {i : Nat} (g : Gd s L) (sn : Snd s) (r : FRow s L h xs) (ha : Ars w K p s) (hi : i ≤ xs.length) :
    Calls Try.prog 44 #[.pointer (some ⟨p, 0, none⟩), .int .i64 h, .int .i64 i] w fun e w' => e = .returned (.int .i64 ((xs.take i).count true : Nat)) ∧ Below w.heap.size w w' := by
  obtain ⟨t, a, b, c, rfl, e⟩ := r
  rw [t.len_list] at hi
  by_cases h0 : i = 0
  · subst h0
    refine (brank_zero g sn a b (by omega) ha (.inl (by simp))).mono ?_
    rintro e w' ⟨rfl, _, hb⟩
    exact ⟨rfl, hb⟩
  have hn : t.isNil = false := by
    cases ht : t.isNil
    · rfl
    · have := c.nil_iff.1 ht
      omega
  refine (brank_in g sn ⟨ha, Below.refl _ _, a, b, c.solid hn, by omega, Nat.le_refl _⟩ hi (by omega)).mono ?_
  rintro e w' ⟨rfl, _, hb⟩
  exact ⟨rfl, hb⟩
theorem fselect_row {i : Nat} {one : Bool} (g : Gd s L) (sn : Snd s) (r : FRow s L h xs) (ha : Ars w K p s) (hi : i < xs.count one) :
    Calls Try.prog 45 #[.pointer (some ⟨p, 0, none⟩), .int .i64 h, .bool one, .int .i64 i] w fun e w' => e = .returned (.int .i64 (bsel xs one i)) ∧ Below w.heap.size w w' := by
  obtain ⟨t, a, b, c, rfl, e⟩ := r
  have hn : t.isNil = false := by
    cases ht : t.isNil
    · rfl
    · have h1 := c.nil_iff.1 ht
      have h2 := List.count_le_length (a := one) (l := t.list)
      rw [t.len_list] at h2
      omega
  refine (bselect_in g sn ⟨ha, Below.refl _ _, a, b, c.solid hn, by omega, Nat.le_refl _⟩ hi).mono ?_
  rintro e w' ⟨rfl, _, hb⟩
  exact ⟨rfl, hb⟩
/-- A bit is put in: what comes of it. -/
theorem finsert_ex {one : Bool} {i : Nat} (g : Gd s L) (r : FRow s L h xs) (hi' : i ≤ xs.length) (hx : xs.length < 5000) (hL : L.length ≤ 400000) (hm : s.made - s.busy ≤ 1000000000) : ∃ s' e' q, Went s s' (3 * hi xs.length + 1) ∧ EOk s' e' ∧ Gd s' (q :: L) ∧ (e' ≠ 0 → q = 0) ∧ (0 ≤ q ∧ q ≤ s'.n) ∧ (e' = 0 → 1 ≤ q ∧ ∃ t : BT, BRep s' q t ∧ t.Fine ∧ t.list = bIns xs i one) ∧
    ∀ {K : Nat → Prop} {p : Nat} {w : World}, Ars w K p s → Calls Try.prog 50 #[.pointer (some ⟨p, 0, none⟩), .int .i64 h, .int .i64 i, .bool one] w fun o w' => o = .returned (.tuple #[.int .i64 q, .int .i64 e']) ∧ Ars w' K p s' ∧ Kept K w w' := by
  obtain ⟨t, a, b, c, rfl, e⟩ := r
  rw [t.len_list] at hi' hx ⊢
  have hh := c.high16
  have hh2 := c.hi
  obtain ⟨s', e', q, hI, R⟩ := ins_ex (one := one) t i s L h g hm (by omega) a b c hi' (by omega) (by omega)
  obtain ⟨v, hv, vl, _, _⟩ := vw_any a g b (by omega)
  have sn : Snd s := g.snd (by omega) hm
  obtain ⟨f1, f2, f3⟩ := binsert_fine c hi' one
  exact ⟨s', e', q, R.went.mono (by omega), R.eok, R.gd, R.zero, R.hd.range, fun e0 => ⟨(R.hd.1 e0).pos f3, binsert t i one, R.hd.1 e0, f1, f2⟩, fun ha => bInsert_walk hI R.zero hv (by omega) sn ha⟩
/-- A bit is taken out: what comes of it. -/
theorem fdelete_ex {i : Nat} (g : Gd s L) (r : FRow s L h xs) (hi' : i < xs.length) (hL : L.length ≤ 400000) (hm : s.made - s.busy ≤ 1000000000) : ∃ s' e' q, Went s s' (3 * hi xs.length) ∧ EOk s' e' ∧ Gd s' (q :: L) ∧ (e' ≠ 0 → q = 0) ∧ (0 ≤ q ∧ q ≤ s'.n) ∧ (e' = 0 → ∃ t : BT, BRep s' q t ∧ t.Fine ∧ t.list = bDel xs i) ∧
    ∀ {K : Nat → Prop} {p : Nat} {w : World}, Ars w K p s → Calls Try.prog 53 #[.pointer (some ⟨p, 0, none⟩), .int .i64 h, .int .i64 i] w fun o w' => o = .returned (.tuple #[.int .i64 q, .int .i64 e']) ∧ Ars w' K p s' ∧ Kept K w w' := by
  obtain ⟨t, a, b, c, rfl, e⟩ := r
  rw [t.len_list] at hi' ⊢
  have hh := c.high16
  have hh2 := c.hi
  obtain ⟨s', e', q, hI, R⟩ := cut_ex t i s L h g hm (by omega) a b c hi' (by omega) (by omega)
  obtain ⟨v, hv, vl, _, _⟩ := vw_any a g b (by omega)
  have sn : Snd s := g.snd (by omega) hm
  obtain ⟨f1, f2⟩ := bcut_fine c hi'
  exact ⟨s', e', q, R.went.mono (by omega), R.eok, R.gd, R.zero, R.hd.range, fun e0 => ⟨bcut t i, R.hd.1 e0, f1, f2⟩, fun ha => bDelete_walk hI R.zero hv (by omega) sn ha⟩
end
end Go.Proofs.Ytdipgcbppggdhaa
namespace Go.Proofs.Ytdipgcbppggdhaa
set_option maxRecDepth 100000

/-- A symbol's bit, where so many levels are below. -/
def wb (n x : Nat) : Bool := x / 2 ^ n % 2 == 1
/-- The arena holds the row of symbols at a handle, with so many levels from there on. -/
def WRep (s : Ar) : Nat → Int → List Nat → Prop
  | 0, h, _ => h = 0
  | n + 1, h, xs => (xs = [] ∧ h = 0) ∨ (xs ≠ [] ∧ 1 ≤ h ∧ h ≤ s.n ∧ s.u h.toNat = true ∧ ∃ (kb k0 k1 : Int) (t : BT), s.nd h.toNat = ⟨3, kb, k0, k1, 0, 0, 0⟩ ∧ BRep s kb t ∧ t.Fine ∧ t.list = xs.map (wb n) ∧ WRep s n k0 (xs.filter fun x => !wb n x) ∧ WRep s n k1 (xs.filter (wb n)))
section
variable {s s' : Ar} {L L' : List Int} {n : Nat} {h : Int} {xs : List Nat}
theorem WRep.nil (s : Ar) : ∀ n, WRep s n 0 []
  | 0 => rfl
  | _ + 1 => .inl ⟨rfl, rfl⟩
theorem WRep.zero (r : WRep s n h []) : h = 0 := by
  cases n with
  | zero => exact r
  | succ n =>
    rcases r with ⟨_, r⟩ | ⟨r, _⟩
    · exact r
    · exact absurd rfl r
theorem WRep.ext (E : Ext s s') : ∀ {n : Nat} {h : Int} {xs : List Nat}, WRep s n h xs → WRep s' n h xs
  | 0, _, _, r => r
  | n + 1, h, xs, r => by
    rcases r with r | ⟨a, b, c, d, kb, k0, k1, t, e1, e2, e3, e4, e5, e6⟩
    · exact .inl r
    · exact .inr ⟨a, b, by rw [E.n]; exact c, E.u _ d, kb, k0, k1, t, (E.nd _ d).trans e1, e2.ext E, e3, e4, WRep.ext E e5, WRep.ext E e6⟩
theorem WRep.range (r : WRep s n h xs) : 0 ≤ h ∧ h ≤ s.n := by
  cases n with
  | zero => have : h = 0 := r; omega
  | succ n =>
    rcases r with ⟨_, r⟩ | ⟨_, b, c, _⟩
    · omega
    · omega
theorem WRep.pos (r : WRep s (n + 1) h xs) (hx : xs ≠ []) : 1 ≤ h := by
  rcases r with ⟨r, _⟩ | ⟨_, b, _⟩
  · exact absurd r hx
  · exact b
theorem WRep.nil_iff (r : WRep s (n + 1) h xs) : h = 0 ↔ xs = [] := by
  rcases r with ⟨a, b⟩ | ⟨a, b, _⟩
  · exact ⟨fun _ => a, fun _ => b⟩
  · exact ⟨fun e => by omega, fun e => absurd e a⟩
theorem WRep.congr (hn : s'.n = s.n) (hu : s'.u = s.u) (hd : s'.nd = s.nd) : ∀ {n : Nat} {h : Int} {xs : List Nat}, WRep s n h xs → WRep s' n h xs
  | 0, _, _, r => r
  | n + 1, h, xs, r => by
    rcases r with r | ⟨a, b, c, d, kb, k0, k1, t, e1, e2, e3, e4, e5, e6⟩
    · exact .inl r
    · exact .inr ⟨a, b, by rw [hn]; exact c, by rw [hu]; exact d, kb, k0, k1, t, by rw [hd]; exact e1, brep_congr hn hu hd e2, e3, e4, WRep.congr hn hu hd e5, WRep.congr hn hu hd e6⟩
theorem WRep.pop (g : Gd s L) {i : Int} {r : List Int} (hw : s.wt = i :: r) : ∀ {n : Nat} {h : Int} {xs : List Nat}, WRep s n h xs → (1 ≤ h → s.count h ≠ 0) → WRep (s.pop i r) n h xs
  | 0, _, _, x, _ => x
  | n + 1, h, xs, x, hc => by
    rcases x with x | ⟨a, b, c, d, kb, k0, k1, t, e1, e2, e3, e4, e5, e6⟩
    · exact .inl x
    · obtain ⟨B, ok⟩ := g.ok
      obtain ⟨i1, i2, _, i4⟩ := ok.wt i (by rw [hw]; simp)
      have ne : h.toNat ≠ i.toNat := fun e => by
        have : s.count h = s.c h.toNat := if_neg (by omega)
        exact hc b (by rw [this, e, i4])
      have hk : (s.nd h.toNat).kids = [kb, k0, k1, 0] := by rw [e1]; rfl
      exact .inr ⟨a, b, c, (upd_ne _ _ ne).trans d, kb, k0, k1, t, (upd_ne _ _ ne).trans e1, brep_pop g hw e2 fun p => (g.kid b c d (k := kb) (by rw [hk]; simp) p).2, e3, e4, WRep.pop g hw e5 fun p => (g.kid b c d (k := k0) (by rw [hk]; simp) p).2, WRep.pop g hw e6 fun p => (g.kid b c d (k := k1) (by rw [hk]; simp) p).2⟩
theorem WRep.work (hm : h = 0 ∨ h ∈ L) : ∀ (m : Nat) {s : Ar}, Gd s L → WRep s n h xs → WRep (s.work m).1 n h xs
  | 0, _, _, r => r
  | m + 1, s, g, r => by
    unfold Ar.work
    split
    · exact r
    · rename_i i rr hw
      refine WRep.work hm m (gd_free1 g hw) ?_
      rw [free1_eq]
      refine WRep.congr (drops_n _ _) (drops_u _ _) (drops_nd _ _) (r.pop g hw fun p => ?_)
      rcases hm with rfl | hm
      · omega
      · exact g.live p r.range.2 hm
end
theorem filter_len (p : Nat → Bool) : ∀ xs : List Nat, (xs.filter fun x => !p x).length + (xs.filter p).length = xs.length
  | [] => rfl
  | x :: xs => by
    have := filter_len p xs
    cases h : p x <;> simp [h] <;> omega
/-- The nodes of a row of symbols: there are no more than three for each symbol and level. -/
theorem wrep_cover {s : Ar} : ∀ {n : Nat} {h : Int} {xs : List Nat}, WRep s n h xs → ∃ l : List Int, l.length ≤ n * (3 * xs.length) ∧ (s.count h ≠ 0 → h ∈ l) ∧ ∀ x k, x ∈ l → k ∈ (s.nd x.toNat).kids → s.count k ≠ 0 → k ∈ l
  | 0, h, xs, r => by
    obtain rfl : h = 0 := r
    exact ⟨[], Nat.zero_le _, fun c => absurd (count_zero' s) c, fun _ _ hx => by cases hx⟩
  | n + 1, h, xs, r => by
    rcases r with ⟨a, b⟩ | ⟨a, b, c, d, kb, k0, k1, t, e1, e2, e3, e4, e5, e6⟩
    · subst b
      exact ⟨[], Nat.zero_le _, fun c => absurd (count_zero' s) c, fun _ _ hx => by cases hx⟩
    · obtain ⟨l0, p1, p2, p3⟩ := wrep_cover e5
      obtain ⟨l1, q1, q2, q3⟩ := wrep_cover e6
      have hk : (s.nd h.toNat).kids = [kb, k0, k1, 0] := by rw [e1]; rfl
      refine ⟨h :: (nods s t kb ++ (l0 ++ l1)), ?_, fun _ => List.mem_cons_self, fun x k hx hkk hc => ?_⟩
      · have hf := filter_len (wb n) xs
        have hn := e3.nodes
        have hl : t.len = xs.length := by rw [← t.len_list, e4, List.length_map]
        have hp : 1 ≤ xs.length := List.length_pos_iff.2 a
        have e7 : n * (3 * (xs.filter fun x => !wb n x).length) + n * (3 * (xs.filter (wb n)).length) = n * (3 * xs.length) := by
          rw [← Nat.mul_add, ← Nat.mul_add, hf]
        have e8 : (n + 1) * (3 * xs.length) = n * (3 * xs.length) + 3 * xs.length := by rw [Nat.add_mul, Nat.one_mul]
        simp only [List.length_cons, List.length_append, nods_len]
        omega
      · rcases List.mem_cons.1 hx with rfl | hx
        · rw [hk] at hkk
          have : k = kb ∨ k = k0 ∨ k = k1 ∨ k = 0 := by simpa using hkk
          rcases this with rfl | rfl | rfl | rfl
          · exact List.mem_cons_of_mem _ (List.mem_append_left _ (nods_self e2 hc))
          · exact List.mem_cons_of_mem _ (List.mem_append_right _ (List.mem_append_left _ (p2 hc)))
          · exact List.mem_cons_of_mem _ (List.mem_append_right _ (List.mem_append_right _ (q2 hc)))
          · exact absurd (count_zero' s) hc
        · rcases List.mem_append.1 hx with hx | hx
          · exact List.mem_cons_of_mem _ (List.mem_append_left _ (nods_kid e2 hx hkk hc))
          · rcases List.mem_append.1 hx with hx | hx
            · exact List.mem_cons_of_mem _ (List.mem_append_right _ (List.mem_append_left _ (p3 _ _ hx hkk hc)))
            · exact List.mem_cons_of_mem _ (List.mem_append_right _ (List.mem_append_right _ (q3 _ _ hx hkk hc)))
theorem wrep_reach {s : Ar} {n : Nat} {h : Int} {xs : List Nat} (r : WRep s n h xs) {ys : List Int} (ha : Asc ys) (hy : ∀ x, x ∈ ys ↔ Rch s [h] x) : ys.length ≤ n * (3 * xs.length) := by
  obtain ⟨l, h1, h2, h3⟩ := wrep_cover r
  refine Nat.le_trans (nodup_sub ha.nodup fun x hx => ?_) h1
  have hr := (hy x).1 hx
  clear hx
  induction hr with
  | root a b =>
    obtain rfl := List.mem_singleton.1 a
    exact h2 b
  | kid _ a b ih => exact h3 _ _ ih a b
section
variable {s s' : Ar} {L L' : List Int}
/-- What is reached from somebody's node stays so, whatever is made. -/
theorem rch_ext (g : Gd s L) (g' : Gd s' L') (E : Ext s s') {h : Int} (h0 : 0 ≤ h ∧ h ≤ s.n) (hm : h = 0 ∨ h ∈ L) (hm' : h = 0 ∨ h ∈ L') (x : Int) : Rch s [h] x ↔ Rch s' [h] x := by
  have live : ∀ {t : Ar} {M : List Int}, Gd t M → t.n = s.n → (h = 0 ∨ h ∈ M) → t.count h ≠ 0 ∨ h = 0 := fun {t} {M} gt hn hh => by
    rcases hh with hh | hh
    · exact .inr hh
    · by_cases c : h = 0
      · exact .inr c
      · exact .inl (gt.live (by omega) (by rw [hn]; exact h0.2) hh)
  constructor
  · intro hr
    induction hr with
    | root a b =>
      obtain rfl := List.mem_singleton.1 a
      rcases live g' E.n hm' with c | c
      · exact .root List.mem_cons_self c
      · subst c; exact absurd (count_zero' s) b
    | kid hy a b ih =>
      rename_i y k
      obtain ⟨u1, u2, u3⟩ := usedL_mem.1 (g.used hy.live)
      have hk : k ∈ (s'.nd y.toNat).kids := by rw [E.nd _ u3]; exact a
      obtain ⟨k1, _⟩ := count_pos b
      exact .kid ih hk (g'.kid u1 (by rw [E.n]; exact u2) (E.u _ u3) hk k1).2
  · intro hr
    have both : Rch s [h] x := by
      induction hr with
      | root a b =>
        obtain rfl := List.mem_singleton.1 a
        rcases live g rfl hm with c | c
        · exact .root List.mem_cons_self c
        · subst c; exact absurd (count_zero' s') b
      | kid hy a b ih =>
        rename_i y k
        obtain ⟨u1, u2, u3⟩ := usedL_mem.1 (g.used ih.live)
        have hk : k ∈ (s.nd y.toNat).kids := by rw [← E.nd _ u3]; exact a
        obtain ⟨k1, _⟩ := count_pos b
        exact .kid ih hk (g.kid u1 u2 u3 hk k1).2
    exact both
theorem rch_free1 (g : Gd s L) {i : Int} {r : List Int} (hw : s.wt = i :: r) {h : Int} (h0 : 0 ≤ h ∧ h ≤ s.n) (hm : h = 0 ∨ h ∈ L) (x : Int) : Rch s [h] x ↔ Rch (s.free1 i r) [h] x := by
  have g' := gd_free1 g hw
  obtain ⟨B, ok⟩ := g.ok
  obtain ⟨i1, i2, _, i4⟩ := ok.wt i (by rw [hw]; simp)
  have en : (s.free1 i r).n = s.n := by rw [free1_eq, drops_n]; rfl
  have end_ : ∀ y : Int, s.count y ≠ 0 → (s.free1 i r).nd y.toNat = s.nd y.toNat ∧ (s.free1 i r).u y.toNat = s.u y.toNat := fun y hy => by
    obtain ⟨y1, y2, y3⟩ := count_pos hy
    have ne : y.toNat ≠ i.toNat := fun e => hy (by rw [y3, e, i4])
    rw [free1_eq, drops_nd, drops_u]
    exact ⟨upd_ne _ _ ne, upd_ne _ _ ne⟩
  constructor
  · intro hr
    induction hr with
    | root a b =>
      obtain rfl := List.mem_singleton.1 a
      rcases hm with hm | hm
      · subst hm; exact absurd (count_zero' s) b
      · obtain ⟨b1, _⟩ := count_pos b
        exact .root List.mem_cons_self (g'.live b1 (by rw [en]; exact h0.2) hm)
    | kid hy a b ih =>
      rename_i y k
      obtain ⟨u1, u2, u3⟩ := usedL_mem.1 (g.used hy.live)
      obtain ⟨e1, e2⟩ := end_ y hy.live
      have hk : k ∈ ((s.free1 i r).nd y.toNat).kids := by rw [e1]; exact a
      obtain ⟨k1, _⟩ := count_pos b
      exact .kid ih hk (g'.kid u1 (by rw [en]; exact u2) (by rw [e2]; exact u3) hk k1).2
  · intro hr
    induction hr with
    | root a b =>
      obtain rfl := List.mem_singleton.1 a
      rcases hm with hm | hm
      · subst hm; exact absurd (count_zero' _) b
      · obtain ⟨b1, _⟩ := count_pos b
        exact .root List.mem_cons_self (g.live b1 h0.2 hm)
    | kid hy a b ih =>
      rename_i y k
      obtain ⟨u1, u2, u3⟩ := usedL_mem.1 (g.used ih.live)
      obtain ⟨e1, _⟩ := end_ y ih.live
      have hk : k ∈ (s.nd y.toNat).kids := by rw [← e1]; exact a
      obtain ⟨k1, _⟩ := count_pos b
      exact .kid ih hk (g.kid u1 u2 u3 hk k1).2
theorem rch_work {h : Int} (hm : h = 0 ∨ h ∈ L) (x : Int) : ∀ (m : Nat) {s : Ar}, Gd s L → (0 ≤ h ∧ h ≤ s.n) → (Rch s [h] x ↔ Rch (s.work m).1 [h] x)
  | 0, _, _, _ => Iff.rfl
  | m + 1, s, g, h0 => by
    unfold Ar.work
    split
    · exact Iff.rfl
    · rename_i i r hw
      exact (rch_free1 g hw h0 hm x).trans (rch_work hm x m (gd_free1 g hw) ⟨h0.1, by rw [free1_eq, drops_n]; exact h0.2⟩)
end
/-- A symbol is put in; is taken out. -/
def wIns (xs : List Nat) (i v : Nat) : List Nat := xs.take i ++ v :: xs.drop i
def wDel (xs : List Nat) (i : Nat) : List Nat := xs.take i ++ xs.drop (i + 1)
section
variable {xs : List Nat} {i v : Nat} {p : Nat → Bool}
theorem wIns_len (h : i ≤ xs.length) : (wIns xs i v).length = xs.length + 1 := by
  unfold wIns
  rw [List.length_append, List.length_cons, List.length_take, List.length_drop]
  omega
theorem wDel_len (h : i < xs.length) : (wDel xs i).length + 1 = xs.length := by
  unfold wDel
  rw [List.length_append, List.length_take, List.length_drop]
  omega
theorem wIns_map (f : Nat → Bool) : (wIns xs i v).map f = bIns (xs.map f) i (f v) := by
  unfold wIns bIns
  rw [List.map_append, List.map_cons, List.map_take, List.map_drop]
theorem wDel_map (f : Nat → Bool) : (wDel xs i).map f = bDel (xs.map f) i := by
  unfold wDel bDel
  rw [List.map_append, List.map_take, List.map_drop]
theorem filter_take_drop (i : Nat) : (xs.take i).filter p = (xs.filter p).take ((xs.take i).countP p) ∧ (xs.drop i).filter p = (xs.filter p).drop ((xs.take i).countP p) := by
  have e : xs.filter p = (xs.take i).filter p ++ (xs.drop i).filter p := by rw [← List.filter_append, List.take_append_drop]
  rw [e, List.countP_eq_length_filter]
  exact ⟨(List.take_left' rfl).symm, (List.drop_left' rfl).symm⟩
theorem wIns_filter_yes (hv : p v = true) : (wIns xs i v).filter p = wIns (xs.filter p) ((xs.take i).countP p) v := by
  obtain ⟨a, b⟩ := filter_take_drop (xs := xs) (p := p) i
  unfold wIns
  rw [List.filter_append, List.filter_cons_of_pos hv, a, b]
theorem wIns_filter_no (hv : p v = false) : (wIns xs i v).filter p = xs.filter p := by
  unfold wIns
  rw [List.filter_append, List.filter_cons_of_neg (by rw [hv]; decide), ← List.filter_append, List.take_append_drop]
theorem drop_split (h : i < xs.length) : xs.drop i = xs.getD i 0 :: xs.drop (i + 1) := by
  rw [List.drop_eq_getElem_cons h]
  simp [List.getD, h]
theorem wDel_filter_no (h : i < xs.length) (hv : p (xs.getD i 0) = false) : (wDel xs i).filter p = xs.filter p := by
  have e : xs.filter p = (xs.take i).filter p ++ (xs.drop i).filter p := by rw [← List.filter_append, List.take_append_drop]
  unfold wDel
  rw [List.filter_append, e, drop_split h, List.filter_cons_of_neg (by rw [hv]; decide)]
theorem wDel_filter_yes (h : i < xs.length) (hv : p (xs.getD i 0) = true) : (wDel xs i).filter p = wDel (xs.filter p) ((xs.take i).countP p) ∧ (xs.take i).countP p < (xs.filter p).length ∧ (xs.filter p).getD ((xs.take i).countP p) 0 = xs.getD i 0 := by
  obtain ⟨a, b⟩ := filter_take_drop (xs := xs) (p := p) i
  have hd : (xs.filter p).drop ((xs.take i).countP p) = xs.getD i 0 :: (xs.drop (i + 1)).filter p := by
    rw [← b, drop_split h, List.filter_cons_of_pos hv]
  have hl : (xs.take i).countP p < (xs.filter p).length := by
    have := congrArg List.length hd
    rw [List.length_drop, List.length_cons] at this
    omega
  refine ⟨?_, hl, ?_⟩
  · unfold wDel
    rw [List.filter_append, a]
    congr 1
    have := congrArg List.tail hd
    rw [List.tail_drop] at this
    exact this.symm
  · rw [List.drop_eq_getElem_cons hl] at hd
    have := (List.cons.inj hd).1
    rw [List.getD_eq_getElem?_getD, List.getElem?_eq_getElem hl]
    exact this
end
end Go.Proofs.Ytdipgcbppggdhaa
