/- What ArenaCounts keeps from round to round: the plain laws of its rounds. -/
import Derived.Test.YtjndhjmbdhfclaaA8
import Derived.Test.YtjndhjmbdhfclaaMap
import Derived.Test.YtjndhjmbdhfclaaLst
import Derived.Test.YtjndhjmbdhfclaaFlat
import Derived.Test.YtjndhjmbdhfclaaAcc2
namespace Go.Proofs.Ytjndhjmbdhfclaa
set_option maxRecDepth 100000
open Go.ChangeShapes Go.WideShapes Go.ChangeAt Go.RowKit

theorem i64_and3 (n : Int) : bits .and .i64 n 3 = n % 4 := by
  have h3 : (BitVec.ofInt 64 3).toNat = 2 ^ 2 - 1 := by decide
  have key : (BitVec.ofInt 64 n &&& BitVec.ofInt 64 3).toNat = (n % ((2 ^ 64 : Nat) : Int)).toNat % 2 ^ 2 := by
    rw [BitVec.toNat_and, BitVec.toNat_ofInt, h3, Nat.and_two_pow_sub_one_eq_mod]
  show IntKind.i64.wrap ((BitVec.ofInt 64 n &&& BitVec.ofInt 64 3).toNat : Nat) = n % 4
  rw [key, IntKind.wrap_i64]
  omega
theorem i64_and1 (n : Int) : bits .and .i64 n 1 = n % 2 := by
  have h3 : (BitVec.ofInt 64 1).toNat = 2 ^ 1 - 1 := by decide
  have key : (BitVec.ofInt 64 n &&& BitVec.ofInt 64 1).toNat = (n % ((2 ^ 64 : Nat) : Int)).toNat % 2 ^ 1 := by
    rw [BitVec.toNat_and, BitVec.toNat_ofInt, h3, Nat.and_two_pow_sub_one_eq_mod]
  show IntKind.i64.wrap ((BitVec.ofInt 64 n &&& BitVec.ofInt 64 1).toNat : Nat) = n % 2
  rw [key, IntKind.wrap_i64]
  omega
theorem i64_and7 (n : Int) : bits .and .i64 n 7 = n % 8 := by
  have h3 : (BitVec.ofInt 64 7).toNat = 2 ^ 3 - 1 := by decide
  have key : (BitVec.ofInt 64 n &&& BitVec.ofInt 64 7).toNat = (n % ((2 ^ 64 : Nat) : Int)).toNat % 2 ^ 3 := by
    rw [BitVec.toNat_and, BitVec.toNat_ofInt, h3, Nat.and_two_pow_sub_one_eq_mod]
  show IntKind.i64.wrap ((BitVec.ofInt 64 n &&& BitVec.ofInt 64 7).toNat : Nat) = n % 8
  rw [key, IntKind.wrap_i64]
  omega

theorem cnt_nil (k : Nat) : cnt [] k = 0 := rfl
theorem cnt_snoc (l : List Int) (x : Int) (k : Nat) : cnt (l ++ [x]) k = cnt l k + if x = (k : Int) then 1 else 0 := by
  unfold cnt
  rw [List.count_append, List.count_singleton]
  by_cases e : x = (k : Int)
  · rw [if_pos e, if_pos (by simpa using e)]
  · rw [if_neg e, if_neg (by simpa using e)]
theorem cnt_erase (l : List Int) (x : Int) (k : Nat) : cnt (l.erase x) k = cnt l k - if x = (k : Int) then 1 else 0 := by
  unfold cnt
  rw [List.count_erase]
  by_cases e : x = (k : Int)
  · rw [if_pos e, if_pos (by simpa using e)]
  · rw [if_neg e, if_neg (by simpa using e)]
theorem cnt_mem {l : List Int} {x : Int} (h : x ∈ l) (h0 : 0 ≤ x) : 1 ≤ cnt l x.toNat := by
  unfold cnt
  rw [show ((x.toNat : Nat) : Int) = x by omega]
  exact List.count_pos_iff.2 h

/-- All are used where none is free. -/
theorem freeFrom_zero {s : Ar} : ∀ (d h : Nat), 1 ≤ h → s.freeFrom d h = 0 → ∀ j, h ≤ j → j < h + d → s.u j = true
  | 0, h, _, _, j, h1, h2 => by omega
  | d + 1, h, h0, he, j, h1, h2 => by
    unfold Ar.freeFrom at he
    by_cases hu : s.u h = true
    · rw [if_pos hu] at he
      by_cases e : j = h
      · subst e; exact hu
      · exact freeFrom_zero d (h + 1) (by omega) he j (by omega) (by omega)
    · rw [if_neg hu] at he; omega
theorem usedN_full {n : Nat} {u : Nat → Bool} (h : ∀ i, 1 ≤ i → i ≤ n → u i = true) : usedN n u = n := by
  induction n with
  | zero => rfl
  | succ n ih => rw [usedN_succ, ih fun i h1 h2 => h i h1 (by omega), h (n + 1) (by omega) (Nat.le_refl _)]; rfl
theorem free_full {s : Ar} {B : Int} (ok : s.Ok B) (h : s.free = 0) : s.busy = s.n := by
  rw [ok.busy, usedN_full fun i h1 h2 => freeFrom_zero s.n 1 (Nat.le_refl _) h i h1 (by omega)]

/-- Work frees: so many fewer are busy. -/
theorem work_busy : ∀ (m : Nat) (s : Ar), (s.work m).1.busy = s.busy - (s.work m).2
  | 0, s => by simp [Ar.work]
  | m + 1, s => by
    unfold Ar.work
    split
    · simp
    · rename_i i r hw
      have := work_busy m (s.free1 i r)
      have e : (s.free1 i r).busy = s.busy - 1 := by rw [free1_eq, drops_busy]; rfl
      simp only
      rw [this, e]
      omega
theorem work_n : ∀ (m : Nat) (s : Ar), (s.work m).1.n = s.n
  | 0, s => rfl
  | m + 1, s => by
    unfold Ar.work
    split
    · rfl
    · rename_i i r hw
      exact (work_n m (s.free1 i r)).trans (by rw [free1_eq, drops_n]; rfl)
theorem work_some {s : Ar} (m : Nat) (h : s.wt ≠ []) : 1 ≤ (s.work (m + 1)).2 := by
  unfold Ar.work
  split
  · rename_i e; exact absurd e h
  · exact Nat.succ_le_succ (Nat.zero_le _)

/-- So often is k a kid of a used node of 1 to h. -/
def kidsN (s : Ar) : Nat → Int → Nat
  | 0, _ => 0
  | h + 1, k => kidsN s h k + if s.u (h + 1) = true then (s.nd (h + 1)).kids.count k else 0
theorem kidsN_refs (s : Ar) (k : Nat) : ∀ h, kidsN s h (k : Int) = sumN h (ctr s k)
  | 0 => rfl
  | h + 1 => by
    unfold kidsN sumN ctr
    rw [kidsN_refs s k h]
    rfl
theorem kidsN_le (s : Ar) (k : Int) : ∀ h, kidsN s h k ≤ 4 * h
  | 0 => Nat.le_refl _
  | h + 1 => by
    unfold kidsN
    have := kidsN_le s k h
    have := List.count_le_length (a := k) (l := (s.nd (h + 1)).kids)
    have e : (s.nd (h + 1)).kids.length = 4 := rfl
    split <;> omega

structure St (w : World) (p b N j : Nat) (K Kl : Nat → Prop) (xs : List Int) (s : Ar) (v : Value) (W : World) : Prop where
  ars : Ars W K p s
  map : IMap W b j fun k => (xs.count k : Int)
  bK : K b
  lst : Lst W w.heap.size Kl v xs
  sub : ∀ x, Kl x → K x
  bKl : ¬ Kl b
  wb : w.heap.size ≤ b
  len : xs.length ≤ j
  rng : ∀ x, x ∈ xs → 1 ≤ x ∧ x ≤ N
  n : s.n = N
  ok : s.Ok (4 * j)
  acc : Acc s (cnt xs)
  led : Led s
  kK : ∀ x, x < w.heap.size → K x
  bel : Below w.heap.size w W
section
variable {w W W' : World} {p b N j : Nat} {K Kl : Nat → Prop} {xs : List Int} {s : Ar} {v : Value}
theorem St.below (h : St w p b N j K Kl xs s v W) (hb : Below W.heap.size W W') : St w p b N j K Kl xs s v W' :=
  ⟨h.ars.below hb, h.map.same (hb.block _ h.map.lt), h.bK, h.lst.kept (Kept.of_below hb Kl), h.sub, h.bKl, h.wb, h.len, h.rng, h.n, h.ok, h.acc, h.led, h.kK, h.bel.trans (hb.mono h.bel.size)⟩
theorem St.alloc (h : St w p b N j K Kl xs s v W) (o : Obj) : St w p b N j K Kl xs s v (W.alloc o) := h.below ((Below.refl _ _).alloc (Nat.le_refl _) o)
theorem St.next (h : St w p b N j K Kl xs s v W) : St w p b N (j + 1) K Kl xs s v W :=
  ⟨h.ars, h.map.mono (by omega), h.bK, h.lst, h.sub, h.bKl, h.wb, by have := h.len; omega, h.rng, h.n, h.ok.mono (by omega), h.acc, h.led, h.kK, h.bel⟩
/-- The arena has turned. -/
theorem St.arena {s' : Ar} (h : St w p b N j K Kl xs s v W) (ha : Ars W' K p s') (hk : Kept K W W') (hn : s'.n = s.n) (ok : s'.Ok (4 * j)) (acc : Acc s' (cnt xs)) (led : Led s') : St w p b N j K Kl xs s' v W' :=
  ⟨ha, h.map.kept hk h.bK, h.bK, h.lst.kept (hk.mono fun x _ hx => h.sub x hx), h.sub, h.bKl, h.wb, h.len, h.rng, hn.trans h.n, ok, acc, led, h.kK, h.bel.trans ((hk.mono fun x _ hx => h.kK x hx).below_of h.bel.size)⟩
/-- A new block of our own. -/
theorem St.allocK (h : St w p b N j K Kl xs s v W) (o : Obj) : St w p b N j (fun x => K x ∨ x = W.heap.size) Kl xs s v (W.alloc o) :=
  ⟨h.ars.allocK o, (h.alloc o).map, .inl h.bK, (h.alloc o).lst, fun x hx => .inl (h.sub x hx), h.bKl, h.wb, h.len, h.rng, h.n, h.ok, h.acc, h.led, fun x hx => .inl (h.kK x hx), (h.alloc o).bel⟩
/-- A write to a block of our own. -/
theorem St.grown {c : Nat} (h : St w p b N j K Kl xs s v W) (hg : W.grownBy W' (some c)) (hc : K c) (hl : ¬ Kl c) (hb : c ≠ b) (hw : w.heap.size ≤ c) : St w p b N j K Kl xs s v W' :=
  ⟨h.ars.kept hg.size fun x hx hk => hg.block x hx (fun e => by cases e; exact hk hc), h.map.same (hg.block b h.map.lt (fun e => by cases e; exact hb rfl)), h.bK, h.lst.kept ((Kept.refl Kl W).grown hg fun k e => by cases e; exact .inl hl), h.sub, h.bKl, h.wb, h.len, h.rng, h.n, h.ok, h.acc, h.led, h.kK, h.bel.grown hg h.bel.size fun k e => by cases e; exact hw⟩
theorem Lst.base {B B' : Nat} {w : World} {K : Nat → Prop} {v : Value} {xs : List Int} (h : Lst w B K v xs) (hB : B' ≤ B) : Lst w B' K v xs := by
  obtain ⟨⟨h1, h2⟩, h3⟩ := h
  refine ⟨⟨h1, ?_⟩, h3⟩
  rcases h2 with h2 | ⟨g, cap, cur, rfl, hg, hh, r⟩
  · exact .inl h2
  · exact .inr ⟨g, cap, cur, rfl, by omega, hh, r⟩
/-- What the arena makes, or keeps once more, is had once more: the map is told, the list grows. -/
theorem St.more {s' : Ar} {y : Int} {W1 W2 W3 : World} (h : St w p b N j K Kl xs s v W) (ha : Ars W1 K p s') (hk : Kept K W W1) (hn : s'.n = s.n) (ok : s'.Ok (4 * (j + 1 : Nat))) (acc : Acc s' (cnt (xs ++ [y]))) (led : Led s') (hy : 1 ≤ y ∧ y ≤ N)
    {z : Int} (hm : IMap W2 b (j + 1) (updI (fun k => (xs.count k : Int)) y z)) (hz : z = (xs.count y : Int) + 1) (hg : W1.grownBy W2 (some b)) (o : Obj) :
    Lst (W2.alloc o) w.heap.size Kl v xs ∧ (∀ x, Kl x → x < (W2.alloc o).heap.size) ∧ w.heap.size ≤ (W2.alloc o).heap.size ∧
    ∀ Kl' v' , Pushed (W2.alloc o) W3 w.heap.size Kl Kl' v' (xs ++ [y]) → St w p b N (j + 1) (fun x => K x ∨ Kl' x) Kl' (xs ++ [y]) s' v' W3 := by
  subst hz
  have hb2 : b < W2.heap.size := hm.lt
  have ha2 : Ars W2 K p s' := ha.kept hg.size fun x hx hn => hg.block x hx (fun e => by cases e; exact hn h.bK)
  have hl1 : Lst W1 w.heap.size Kl v xs := h.lst.kept (hk.mono fun x _ hx => h.sub x hx)
  have hl2 : Lst W2 w.heap.size Kl v xs := hl1.kept ((Kept.refl Kl W1).grown hg fun k e => by cases e; exact .inl h.bKl)
  have hl3 : Lst (W2.alloc o) w.heap.size Kl v xs := hl2.kept ((Kept.refl Kl W2).alloc o)
  have hlt : ∀ x, Kl x → x < (W2.alloc o).heap.size := fun x hx => by have := ha2.lt x (h.sub x hx); simp; omega
  have bel1 : Below w.heap.size w W1 := h.bel.trans ((hk.mono fun x _ hx => h.kK x hx).below_of h.bel.size)
  have bel2 : Below w.heap.size w W2 := bel1.grown hg bel1.size fun k e => by cases e; exact h.wb
  have bel3 := bel2.alloc bel2.size o
  refine ⟨hl3, hlt, bel3.size, fun Kl' v' hp => ?_⟩
  refine ⟨(ha2.alloc o).step hp.size (fun x hx hnk => hp.same x hx fun hh => hnk (h.sub x hh)) (fun x hx => ?_), ?_, .inl h.bK, hp.lst, fun x hx => .inr hx, fun hx => ?_, h.wb, by have := h.len; simp; omega, fun x hx => ?_, hn.trans h.n, ok, acc, led, fun x hx => .inl (h.kK x hx), bel3.trans hp.below⟩
  · rcases hx with hx | hx
    · exact ⟨Nat.lt_of_lt_of_le ((ha2.alloc o).lt x hx) hp.size, .inl hx⟩
    · obtain ⟨a, c⟩ := hp.new x hx
      exact ⟨a, c.imp (h.sub x) id⟩
  · refine ((hm.same (w' := W2.alloc o) (Below.heap_alloc _ _ _ hb2)).same (hp.same b (by simp; omega) h.bKl)).congr fun k _ => ?_
    unfold updI
    rw [List.count_append, List.count_singleton]
    by_cases e : k = y
    · subst e; simp
    · rw [if_neg e, if_neg (by simpa using fun h => e h.symm)]; simp
  · rcases (hp.new b hx).2 with c | c
    · exact h.bKl c
    · simp at c; omega
  · rcases List.mem_append.1 hx with hx | hx
    · exact h.rng x hx
    · have : x = y := by simpa using hx
      subst this; exact hy
/-- What was dropped is had once less. -/
theorem St.less {s' : Ar} {y : Int} {W1 W2 W3 : World} {Kr : Nat → Prop} {vr : Value} (h : St w p b N j K Kl xs s v W) (hy : y ∈ xs) (ha : Ars W1 K p s') (hk : Kept K W W1) (hn : s'.n = s.n) (ok : s'.Ok (4 * j)) (acc : Acc s' (cnt (xs.erase y))) (led : Led s')
    {z : Int} (hm : IMap W2 b (j + 1) (updI (fun k => (xs.count k : Int)) y z)) (hz : z = (xs.count y : Int) - 1) (hg : W1.grownBy W2 (some b)) (hb : Below W2.heap.size W2 W3) (hl : Lst W3 W2.heap.size Kr vr (xs.erase y)) (hr : ∀ x, Kr x → W2.heap.size ≤ x ∧ x < W3.heap.size) :
    St w p b N (j + 1) (fun x => K x ∨ Kr x) Kr (xs.erase y) s' vr W3 := by
  subst hz
  have hb2 : b < W2.heap.size := hm.lt
  have ha2 : Ars W2 K p s' := ha.kept hg.size fun x hx hn => hg.block x hx (fun e => by cases e; exact hn h.bK)
  have bel1 : Below w.heap.size w W1 := h.bel.trans ((hk.mono fun x _ hx => h.kK x hx).below_of h.bel.size)
  have bel2 : Below w.heap.size w W2 := bel1.grown hg bel1.size fun k e => by cases e; exact h.wb
  refine ⟨ha2.step hb.size (fun x hx _ => hb.block x hx) (fun x hx => ?_), ?_, .inl h.bK, hl.base bel2.size, fun x hx => .inr hx, fun hx => by have := (hr b hx).1; omega, h.wb, ?_, fun x hx => h.rng x (List.mem_of_mem_erase hx), hn.trans h.n, ok.mono (by omega), acc, led, fun x hx => .inl (h.kK x hx), bel2.trans (hb.mono bel2.size)⟩
  · rcases hx with hx | hx
    · exact ⟨Nat.lt_of_lt_of_le (ha2.lt x hx) hb.size, .inl hx⟩
    · obtain ⟨a, c⟩ := hr x hx
      exact ⟨c, .inr a⟩
  · refine (hm.same (hb.block b hb2)).congr fun k _ => ?_
    unfold updI
    have hc : 1 ≤ xs.count y := List.count_pos_iff.2 hy
    rw [List.count_erase]
    by_cases e : k = y
    · subst e; simp; omega
    · rw [if_neg e, if_neg (by simpa using fun h => e h.symm)]; simp
  · have := h.len
    have := List.length_erase_of_mem hy
    omega
theorem St.zero (h : St w p b N j K Kl xs s v W) : cnt xs 0 = 0 := by
  unfold cnt
  rw [List.count_eq_zero]
  intro hm
  have := h.rng _ hm
  omega
theorem St.has (h : St w p b N j K Kl xs s v W) {y : Int} (hy : y ∈ xs) : 1 ≤ y ∧ y ≤ s.n ∧ 1 ≤ cnt xs y.toNat ∧ s.count y ≠ 0 := by
  obtain ⟨y1, y2⟩ := h.rng y hy
  have hn := h.n
  have hc := cnt_mem hy (by omega)
  have he := h.acc.eq y.toNat (by omega) (by omega)
  refine ⟨y1, by omega, hc, ?_⟩
  unfold Ar.count
  rw [if_neg (by omega)]
  omega
theorem St.keep (h : St w p b N j K Kl xs s v W) {y : Int} (hy : y ∈ xs) : ∃ s', s.keep y = (s', 0) ∧ s'.n = s.n ∧ s'.Ok (4 * (j + 1 : Nat)) ∧ Acc s' (cnt (xs ++ [y])) ∧ Led s' := by
  obtain ⟨y1, y2, _, hc⟩ := h.has hy
  have ok := ok_keep h.ok y
  have ac := acc_keep h.acc hc
  have le := led_keep h.led h.ok y
  have hn : (s.keep y).1.n = s.n := by unfold Ar.keep; split <;> rfl
  have e2 : (s.keep y).2 = 0 := by unfold Ar.keep; rw [if_neg hc]
  refine ⟨(s.keep y).1, by rw [← e2], hn, ok.mono (by omega), ac.congr fun k k1 => ?_, le⟩
  rw [cnt_snoc]
  by_cases e : k = y.toNat
  · subst e; rw [upd_same, if_pos (by omega)]
  · rw [upd_ne _ _ e, if_neg (by omega)]; rfl
theorem St.drop (h : St w p b N j K Kl xs s v W) {y : Int} (hy : y ∈ xs) : ∃ s', s.drop y = (s', 0) ∧ s'.n = s.n ∧ s'.Ok (4 * j) ∧ Acc s' (cnt (xs.erase y)) ∧ Led s' := by
  obtain ⟨y1, y2, hc, _⟩ := h.has hy
  have ok := ok_drop h.ok y
  obtain ⟨e2, ac⟩ := acc_drop h.acc y1 y2 hc
  have le := led_drop h.led y
  refine ⟨(s.drop y).1, by rw [← e2], drop_n s y, ok, ac.congr fun k k1 => ?_, le⟩
  rw [cnt_erase]
  by_cases e : k = y.toNat
  · subst e; rw [upd_same, if_pos (by omega)]
  · rw [upd_ne _ _ e, if_neg (by omega)]; rfl
theorem St.make (h : St w p b N j K Kl xs s v W) {x : Nd} (ht : 1 ≤ x.tag ∧ x.tag ≤ 6) (hk : ∀ y, y ∈ x.kids → y = 0 ∨ y ∈ xs) :
    (∃ s', s.make x = (s', (s.free : Int), 0) ∧ 1 ≤ s.free ∧ s.free ≤ N ∧ s'.n = s.n ∧ s'.Ok (4 * (j + 1 : Nat)) ∧ Acc s' (cnt (xs ++ [(s.free : Int)])) ∧ Led s') ∨ (s.make x = (s, 0, 2) ∧ s.busy = N) := by
  have hb : x.kids.any s.bad = false := by
    rw [List.any_eq_false]
    intro y hy hbad
    obtain ⟨y0, yc⟩ := bad_iff.1 hbad
    rcases hk y hy with e | e
    · exact y0 e
    · exact (h.has e).2.2.2 yc
  unfold Ar.make
  rw [if_neg (by omega), if_neg (by rw [hb]; decide)]
  by_cases hf : s.free = 0
  · rw [if_pos hf]
    exact .inr ⟨rfl, by rw [free_full h.ok hf, h.n]⟩
  · rw [if_neg hf]
    obtain ⟨f1, f2⟩ := free_in hf
    refine .inl ⟨s.put s.free x, rfl, f1, by rw [← h.n]; exact f2, rfl, (ok_put h.ok hb hf).mono (by omega), (acc_put h.acc h.ok hb hf).congr fun k k1 => ?_, led_put h.led h.ok h.acc hb hf⟩
    rw [cnt_snoc]
    by_cases e : k = s.free
    · subst e; rw [upd_same, if_pos rfl]
    · rw [upd_ne _ _ e, if_neg (by omega)]; rfl
end

/-- The list without the first y, as far as it has gone. -/
def Rest (W2 : World) (xs : List Int) (y : Int) (t : Nat) (gb : Bool) (r : Value) (W : World) : Prop :=
  gb = decide (y ∈ xs.take t) ∧ Below W2.heap.size W2 W ∧ ∃ Kr, Lst W W2.heap.size Kr r ((xs.take t).erase y) ∧ ∀ x, Kr x → W2.heap.size ≤ x ∧ x < W.heap.size
theorem take_next {xs : List Int} {t : Nat} (ht : t < xs.length) : xs.take (t + 1) = xs.take t ++ [xs.getD t 0] := by
  rw [List.take_add_one, List.getElem?_eq_getElem ht, List.getD_eq_getElem?_getD, List.getElem?_eq_getElem ht]
  rfl
theorem rest_skip {W2 W : World} {xs : List Int} {y : Int} {t : Nat} {r : Value} (h : Rest W2 xs y t false r W) (ht : t < xs.length) (e : xs.getD t 0 = y) : Rest W2 xs y (t + 1) true r W := by
  obtain ⟨h1, h2, Kr, h3, h4⟩ := h
  have hn : y ∉ xs.take t := by simpa using h1.symm
  refine ⟨?_, h2, Kr, ?_, h4⟩
  · rw [take_next ht, e]; simp
  · rw [take_next ht, e, List.erase_append_right _ hn, show [y].erase y = [] by simp, List.append_nil]
    rwa [List.erase_of_not_mem hn] at h3
theorem rest_take {xs : List Int} {y : Int} {t : Nat} {gb : Bool} (h1 : gb = decide (y ∈ xs.take t)) (ht : t < xs.length) (e : xs.getD t 0 = y → gb = true) :
    (xs.take (t + 1)).erase y = (xs.take t).erase y ++ [xs.getD t 0] ∧ gb = decide (y ∈ xs.take (t + 1)) := by
  rw [take_next ht]
  by_cases hm : y ∈ xs.take t
  · rw [List.erase_append_left _ hm]
    exact ⟨rfl, by rw [h1, decide_eq_true hm]; exact (decide_eq_true (List.mem_append_left _ hm)).symm⟩
  · have hg : gb = false := by rw [h1]; exact decide_eq_false hm
    have hne : xs.getD t 0 ≠ y := fun h => by have := e h; rw [hg] at this; cases this
    rw [List.erase_append_right _ hm, List.erase_of_not_mem hm, List.erase_of_not_mem (by simpa using hne.symm)]
    exact ⟨rfl, by rw [hg]; exact (decide_eq_false (by simp only [List.mem_append, List.mem_singleton, not_or]; exact ⟨hm, hne.symm⟩)).symm⟩
theorem Rest.lt {W2 W : World} {xs : List Int} {y : Int} {t : Nat} {gb : Bool} {r : Value} (h : Rest W2 xs y t gb r W) : W2.heap.size ≤ W.heap.size := h.2.1.size
/-- One more is taken over. -/
theorem Rest.push {W2 W W' : World} {xs : List Int} {y : Int} {t : Nat} {gb : Bool} {r' : Value} {Kr Kr' : Nat → Prop} (h1 : gb = decide (y ∈ xs.take t)) (h2 : Below W2.heap.size W2 W) (h4 : ∀ x, Kr x → W2.heap.size ≤ x ∧ x < W.heap.size) (ht : t < xs.length) (e : xs.getD t 0 = y → gb = true) (o : Obj)
    (hp : Pushed (W.alloc o) W' W2.heap.size Kr Kr' r' ((xs.take t).erase y ++ [xs.getD t 0])) : Rest W2 xs y (t + 1) gb r' W' := by
  obtain ⟨a, b⟩ := rest_take h1 ht e
  refine ⟨b, (h2.alloc h2.size o).trans hp.below, Kr', by rw [a]; exact hp.lst, fun x hx => ?_⟩
  obtain ⟨n1, n2⟩ := hp.new x hx
  refine ⟨?_, n1⟩
  rcases n2 with n2 | n2
  · exact (h4 x n2).1
  · have := h2.size
    simp at n2; omega

/-- The node that is to be made: its first t kids are chosen. -/
def XBox (W1 : World) (z : Nat) (T : Int) (xs : List Int) (W : World) : Prop :=
  ∃ k0 k1 k2 k3, W.heap[z]? = some (.cells #[.int .i64 T, .int .i64 k0, .int .i64 k1, .int .i64 k2, .int .i64 k3, .int .u64 0, .int .u64 0] 31 (0, 0)) ∧ Below W1.heap.size W1 W ∧ (k0 = 0 ∨ k0 ∈ xs) ∧ (k1 = 0 ∨ k1 ∈ xs) ∧ (k2 = 0 ∨ k2 ∈ xs) ∧ (k3 = 0 ∨ k3 ∈ xs)
theorem XBox.old {W1 W : World} {z : Nat} {T : Int} {xs : List Int} (h : XBox W1 z T xs W) {t : Nat} (ht : t < 4) : ∃ v, W.cell? ⟨z, 1 + t, none⟩ = some (.int .i64 v) := by
  obtain ⟨k0, k1, k2, k3, hb, _⟩ := h
  match t, ht with
  | 0, _ => exact ⟨k0, cell_of_row _ _ _ _ _ _ hb⟩
  | 1, _ => exact ⟨k1, cell_of_row _ _ _ _ _ _ hb⟩
  | 2, _ => exact ⟨k2, cell_of_row _ _ _ _ _ _ hb⟩
  | 3, _ => exact ⟨k3, cell_of_row _ _ _ _ _ _ hb⟩
theorem XBox.bel {W1 W : World} {z : Nat} {T : Int} {xs : List Int} (h : XBox W1 z T xs W) : Below W1.heap.size W1 W := by
  obtain ⟨k0, k1, k2, k3, _, h2, _⟩ := h
  exact h2
theorem box_kid {W : World} {z : Nat} {q0 q1 q2 q3 : Int} {a0 a1 a2 a7 a8 a9 : Value} {ty : TypeId} (h : W.heap[z]? = some (.cells #[a0, a1, a2, .int .i64 q0, .int .i64 q1, .int .i64 q2, .int .i64 q3, a7, a8, a9] ty (0, 0))) {t : Nat} (ht : t < 4) :
    ∃ q, W.cell? ⟨z, 3 + t, none⟩ = some (.int .i64 q) := by
  match t, ht with
  | 0, _ => exact ⟨q0, cell_of_row _ _ _ _ _ _ h⟩
  | 1, _ => exact ⟨q1, cell_of_row _ _ _ _ _ _ h⟩
  | 2, _ => exact ⟨q2, cell_of_row _ _ _ _ _ _ h⟩
  | 3, _ => exact ⟨q3, cell_of_row _ _ _ _ _ _ h⟩
theorem XBox.fz {W1 W : World} {z : Nat} {T : Int} {xs : List Int} (h : XBox W1 z T xs W) (i : Nat) : W.frozen? ⟨z, i, none⟩ = false := by
  obtain ⟨k0, k1, k2, k3, hb, _⟩ := h
  exact frozen_of_row _ _ _ _ _ hb
theorem XBox.set {W1 W : World} {z : Nat} {T : Int} {xs : List Int} (h : XBox W1 z T xs W) (hz : W1.heap.size ≤ z) {t : Nat} (ht : t < 4) {y : Int} (hy : y ∈ xs) : XBox W1 z T xs (W.setCell ⟨z, 1 + t, none⟩ (.int .i64 y)) := by
  obtain ⟨k0, k1, k2, k3, hb, h2, a0, a1, a2, a3⟩ := h
  have hs := heap_setCell_same W z (1 + t) _ _ (.int .i64 y) hb
  have h2' := h2.setCell (p := ⟨z, 1 + t, none⟩) hz (.int .i64 y)
  match t, ht with
  | 0, _ => exact ⟨y, k1, k2, k3, hs, h2', .inr hy, a1, a2, a3⟩
  | 1, _ => exact ⟨k0, y, k2, k3, hs, h2', a0, .inr hy, a2, a3⟩
  | 2, _ => exact ⟨k0, k1, y, k3, hs, h2', a0, a1, .inr hy, a3⟩
  | 3, _ => exact ⟨k0, k1, k2, y, hs, h2', a0, a1, a2, .inr hy⟩
end Go.Proofs.Ytjndhjmbdhfclaa
