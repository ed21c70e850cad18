/- What SweepDrops keeps from round to round. -/
import Derived.Test.YtjndhjmbdhfclaaSw10
import Derived.Test.YtjndhjmbdhfclaaCnt
namespace Go.Proofs.Ytjndhjmbdhfclaa
set_option maxRecDepth 100000
open Go.RowKit

section
variable {s : Ar} {B : Int}
/-- Whoever is live is reached from what somebody has, or from the kids of those that wait. -/
theorem all_reached (ok : s.Ok B) {held : List Int} (acc : Acc s (cnt held)) (led : Led s) {x : Int} (hx : s.count x ≠ 0) : Rch s (held ++ waitTo s s.n) x := by
  obtain ⟨ρ, hρ⟩ := led.rank
  have wm : ∀ m, m ≤ s.n → ∀ j : Nat, 1 ≤ j → j ≤ m → s.u j = true → s.c j = 0 → ∀ y, y ∈ (s.nd j).kids → y ∈ waitTo s m := by
    intro m
    induction m with
    | zero => intro _ j j1 j2; omega
    | succ m ih =>
      intro hm j j1 j2 hu hc y hy
      unfold waitTo
      by_cases e : j = m + 1
      · subst e
        rw [if_pos ⟨hu, by rw [count_up s hm]; exact hc⟩]
        exact List.mem_append_right _ hy
      · exact List.mem_append_left _ (ih (by omega) j j1 (by omega) hu hc y hy)
  have main : ∀ d (i : Nat), topN s.n ρ ≤ ρ i + d → s.count (i : Int) ≠ 0 → Rch s (held ++ waitTo s s.n) (i : Int) := by
    intro d
    induction d with
    | zero =>
      intro i hd hi
      obtain ⟨i1, i2, _⟩ := count_pos hi
      have := topN_lt (f := ρ) (n := s.n) (h := i) (by omega) (by omega)
      omega
    | succ d ih =>
      intro i hd hi
      obtain ⟨i1, i2, i3⟩ := count_pos hi
      have he := acc.eq i (by omega) (by omega)
      by_cases hh : cnt held i = 0
      · have hc := (ok.c i).1
        have hci : s.c i ≠ 0 := fun e => hi (i3.trans e)
        obtain ⟨j, j1, j2, j3⟩ := sumN_pos (n := s.n) (f := ctr s i) (by show 1 ≤ refs s i; omega)
        unfold ctr at j3
        cases hj : s.u j
        · rw [hj] at j3; simp at j3
        · rw [hj, if_pos rfl] at j3
          have hk : (i : Int) ∈ (s.nd j).kids := List.count_pos_iff.1 j3
          by_cases hcj : s.c j = 0
          · exact .root (List.mem_append_right _ (wm s.n (Nat.le_refl _) j j1 j2 hj hcj _ hk)) hi
          · have hlt := hρ j hj i hk (by omega)
            have hlt' : ρ i < ρ j := by simpa using hlt
            have hr := ih j (by omega) (by unfold Ar.count; rw [if_neg (by omega)]; simpa using hcj)
            exact .kid hr (by simpa using hk) hi
      · have hm : (i : Int) ∈ held := List.count_pos_iff.1 (Nat.pos_of_ne_zero hh)
        exact .root (List.mem_append_left _ hm) hi
  obtain ⟨i1, i2, _⟩ := count_pos hx
  have := main (topN s.n ρ) x.toNat (by omega) (by rwa [show ((x.toNat : Nat) : Int) = x by omega])
  rwa [show ((x.toNat : Nat) : Int) = x by omega] at this
theorem no_leaks (ok : s.Ok B) {held : List Int} (acc : Acc s (cnt held)) (led : Led s) {ys : List Int} (hy : ∀ x, x ∈ ys ↔ Rch s (held ++ waitTo s s.n) x) : ((liveTo s s.n).filter fun h => !ys.contains h) = [] := by
  rw [List.filter_eq_nil_iff]
  intro x hx
  have := (hy x).2 (all_reached ok acc led (live_mem hx).1)
  simp [this]
theorem usedN_pos {n : Nat} {u : Nat → Bool} {i : Nat} (h1 : 1 ≤ i) (h2 : i ≤ n) (hu : u i = true) : 1 ≤ usedN n u := by
  unfold usedN
  refine List.length_pos_of_mem (a := i - 1) (List.mem_filter.2 ⟨List.mem_range.2 (by omega), ?_⟩)
  rw [show i - 1 + 1 = i by omega]; exact hu
theorem busy_le (ok : s.Ok B) : s.busy ≤ s.n := by
  rw [ok.busy]
  unfold usedN
  have := List.length_filter_le (fun i => s.u (i + 1)) (List.range s.n)
  rw [List.length_range] at this
  omega
theorem work_done : ∀ (m : Nat) (s : Ar), s.Ok B → s.busy ≤ m → (s.work m).1.wt = []
  | 0, s, ok, hb => by
    show s.wt = []
    cases hw : s.wt with
    | nil => rfl
    | cons h r =>
      obtain ⟨h1, h2, h3, _⟩ := ok.wt h (by rw [hw]; simp)
      have := usedN_pos (n := s.n) (i := h.toNat) (by omega) (by omega) h3
      have := ok.busy
      omega
  | m + 1, s, ok, hb => by
    unfold Ar.work
    cases hw : s.wt with
    | nil => exact hw
    | cons h r =>
      refine work_done m _ (ok_free1 ok hw) ?_
      rw [free1_eq, drops_busy]
      show s.busy - 1 ≤ m
      omega
end
/-- The list, and the arena in which each of it is had. -/
structure Dr (w : World) (p : Nat) (K Kl : Nat → Prop) (xs : List Int) (s : Ar) (B : Int) (v : Value) (W : World) : Prop where
  ars : Ars W K p s
  lst : Lst W w.heap.size Kl v xs
  sub : ∀ x, Kl x → K x
  n : s.n = 30
  ok : s.Ok B
  acc : Acc s (cnt xs)
  led : Led s
  rng : ∀ x, x ∈ xs → 1 ≤ x ∧ x ≤ 30
  kK : ∀ x, x < w.heap.size → K x
  bel : Below w.heap.size w W
section
variable {w W W' : World} {p : Nat} {K Kl : Nat → Prop} {xs : List Int} {s : Ar} {v : Value} {B : Int}
theorem Dr.below (h : Dr w p K Kl xs s B v W) (hb : Below W.heap.size W W') : Dr w p K Kl xs s B v W' :=
  ⟨h.ars.below hb, h.lst.kept (Kept.of_below hb Kl), h.sub, h.n, h.ok, h.acc, h.led, h.rng, h.kK, h.bel.trans (hb.mono h.bel.size)⟩
theorem Dr.arena {s' : Ar} {B' : Int} (h : Dr w p K Kl xs s B v W) (ha : Ars W' K p s') (hk : Kept K W W') (hn : s'.n = s.n) (ok : s'.Ok B') (acc : Acc s' (cnt xs)) (led : Led s') : Dr w p K Kl xs s' B' v W' :=
  ⟨ha, h.lst.kept (hk.mono fun x _ hx => h.sub x hx), h.sub, hn.trans h.n, ok, acc, led, h.rng, h.kK, h.bel.trans ((hk.mono fun x _ hx => h.kK x hx).below_of h.bel.size)⟩
theorem Dr.push {s' : Ar} {B' : Int} {y : Int} {W1 W3 : World} (h : Dr w p K Kl xs s B v W) (ha : Ars W1 K p s') (hk : Kept K W W1) (hn : s'.n = s.n) (ok : s'.Ok B') (acc : Acc s' (cnt (xs ++ [y]))) (led : Led s') (hy : 1 ≤ y ∧ y ≤ 30) (o : Obj) :
    Lst (W1.alloc o) w.heap.size Kl v xs ∧ (∀ x, Kl x → x < (W1.alloc o).heap.size) ∧ w.heap.size ≤ (W1.alloc o).heap.size ∧
    ∀ Kl' v', Pushed (W1.alloc o) W3 w.heap.size Kl Kl' v' (xs ++ [y]) → Dr w p (fun x => K x ∨ Kl' x) Kl' (xs ++ [y]) s' B' v' W3 := by
  have hl1 : Lst W1 w.heap.size Kl v xs := h.lst.kept (hk.mono fun x _ hx => h.sub x hx)
  have hl3 : Lst (W1.alloc o) w.heap.size Kl v xs := hl1.kept ((Kept.refl Kl W1).alloc o)
  have hlt : ∀ x, Kl x → x < (W1.alloc o).heap.size := fun x hx => by have := ha.lt x (h.sub x hx); simp; omega
  have bel1 : Below w.heap.size w W1 := h.bel.trans ((hk.mono fun x _ hx => h.kK x hx).below_of h.bel.size)
  have bel3 := bel1.alloc bel1.size o
  refine ⟨hl3, hlt, bel3.size, fun Kl' v' hp => ?_⟩
  refine ⟨(ha.alloc o).step hp.size (fun x hx hnk => hp.same x hx fun hh => hnk (h.sub x hh)) (fun x hx => ?_), hp.lst, fun x hx => .inr hx, hn.trans h.n, ok, acc, led, fun x hx => ?_, fun x hx => .inl (h.kK x hx), bel3.trans hp.below⟩
  · rcases hx with hx | hx
    · exact ⟨Nat.lt_of_lt_of_le ((ha.alloc o).lt x hx) hp.size, .inl hx⟩
    · obtain ⟨a, c⟩ := hp.new x hx
      exact ⟨a, c.imp (h.sub x) id⟩
  · rcases List.mem_append.1 hx with hx | hx
    · exact h.rng x hx
    · have : x = y := by simpa using hx
      subst this; exact hy
theorem Dr.cut {s' : Ar} {B' : Int} {y : Int} {ys : List Int} {W1 W3 : World} {Kr : Nat → Prop} {vr : Value} (h : Dr w p K Kl (y :: ys) s B v W) (ha : Ars W1 K p s') (hk : Kept K W W1) (hn : s'.n = s.n) (ok : s'.Ok B') (acc : Acc s' (cnt ys)) (led : Led s')
    (hp : PushedS W1 W3 W1.heap.size (fun _ => False) Kr vr ys) : Dr w p (fun x => K x ∨ Kr x) Kr ys s' B' vr W3 := by
  have bel1 : Below w.heap.size w W1 := h.bel.trans ((hk.mono fun x _ hx => h.kK x hx).below_of h.bel.size)
  refine ⟨ha.step hp.size (fun x hx _ => hp.same x hx (fun e => e)) (fun x hx => ?_), hp.lst.base bel1.size, fun x hx => .inr hx, hn.trans h.n, ok, acc, led, fun x hx => h.rng x (List.mem_cons_of_mem _ hx), fun x hx => .inl (h.kK x hx), bel1.trans (hp.below.mono bel1.size)⟩
  rcases hx with hx | hx
  · exact ⟨Nat.lt_of_lt_of_le (ha.lt x hx) hp.size, .inl hx⟩
  · obtain ⟨a, c⟩ := hp.new x hx
    exact ⟨a, .inr (c.resolve_left (fun e => e))⟩
theorem Dr.has (h : Dr w p K Kl xs s B v W) {y : Int} (hy : y ∈ xs) : 1 ≤ y ∧ y ≤ s.n ∧ 1 ≤ cnt xs y.toNat ∧ s.count y ≠ 0 := by
  obtain ⟨y1, y2⟩ := h.rng y hy
  have hn := h.n
  have hc := cnt_mem hy (by omega)
  have he := h.acc.eq y.toNat (by omega) (by omega)
  refine ⟨y1, by omega, hc, ?_⟩
  unfold Ar.count
  rw [if_neg (by omega)]
  omega
theorem Dr.drop {y : Int} {ys : List Int} (h : Dr w p K Kl (y :: ys) s B v W) : ∃ s', s.drop y = (s', 0) ∧ s'.n = s.n ∧ s'.Ok B ∧ Acc s' (cnt ys) ∧ Led s' := by
  obtain ⟨y1, y2, hc, _⟩ := h.has (y := y) (by simp)
  obtain ⟨e2, ac⟩ := acc_drop h.acc y1 y2 hc
  refine ⟨(s.drop y).1, by rw [← e2], drop_n s y, ok_drop h.ok y, ac.congr fun k k1 => ?_, led_drop h.led y⟩
  have : cnt ys k = cnt ((y :: ys).erase y) k := by simp
  rw [this, cnt_erase]
  by_cases e : k = y.toNat
  · subst e; rw [upd_same, if_pos (by omega)]
  · rw [upd_ne _ _ e, if_neg (by omega)]; rfl
theorem Dr.zero (h : Dr w p K Kl xs s B v W) : cnt xs 0 = 0 := by
  unfold cnt
  rw [List.count_eq_zero]
  intro hm
  have := h.rng _ hm
  omega
theorem Dr.work (h : Dr w p K Kl xs s B v W) (m : Nat) : ∃ s' n, s.work m = (s', n) ∧ s'.n = s.n ∧ s'.Ok B ∧ Acc s' (cnt xs) ∧ Led s' := by
  refine ⟨(s.work m).1, (s.work m).2, rfl, ?_, ok_work m h.ok, acc_work h.zero m h.acc h.ok, led_work m h.led h.ok⟩
  exact work_n m s
theorem Dr.audit (h : Dr w p K Kl xs s B v W) : auditSees s xs = true :=
  audit_yes h.ok h.acc (fun x hx => by have := h.rng x hx; have := h.n; omega) fun x _ _ => rfl
theorem Dr.make {j : Nat} {x : Nd} (h : Dr w p K Kl (upto j) s B v W) (hu : ∀ i, 1 ≤ i → i ≤ 30 → s.u i = decide (i ≤ j)) (hj : j < 30) (ht : 1 ≤ x.tag ∧ x.tag ≤ 6) (hk : ∀ y, y ∈ x.kids → y = 0 ∨ y ∈ upto j) :
    ∃ s', s.make x = (s', (j : Int) + 1, 0) ∧ s'.n = s.n ∧ s'.Ok (B + 4) ∧ Acc s' (cnt (upto j ++ [(j : Int) + 1])) ∧ Led s' ∧ ∀ i, 1 ≤ i → i ≤ 30 → s'.u i = decide (i ≤ j + 1) := by
  have hb : x.kids.any s.bad = false := by
    rw [List.any_eq_false]
    intro y hy hbad
    obtain ⟨y0, yc⟩ := bad_iff.1 hbad
    rcases hk y hy with e | e
    · exact y0 e
    · exact (h.has e).2.2.2 yc
  have hf : s.free = j + 1 := free_is (by omega) (by rw [h.n]; omega) (by rw [hu _ (by omega) (by omega)]; simp) fun i j1 j2 => by rw [hu i j1 (by omega)]; simp; omega
  have hf0 : s.free ≠ 0 := by omega
  have hm : s.make x = (s.put s.free x, (s.free : Int), 0) := by
    unfold Ar.make
    rw [if_neg (by omega), if_neg (by rw [hb]; decide), if_neg hf0]
  have okp := ok_put h.ok hb hf0
  have acp := acc_put h.acc h.ok hb hf0
  have ldp := led_put h.led h.ok h.acc hb hf0
  rw [hf] at hm okp acp ldp
  refine ⟨_, hm, rfl, okp, acp.congr fun k k1 => ?_, ldp, fun i i1 i2 => ?_⟩
  · rw [cnt_snoc]
    by_cases e : k = j + 1
    · subst e; rw [upd_same, if_pos (by omega)]
    · rw [upd_ne _ _ e, if_neg (by omega)]; rfl
  · show upd s.u (j + 1) true i = _
    by_cases e : i = j + 1
    · subst e; rw [upd_same]; simp
    · rw [upd_ne _ _ e, hu i i1 i2]
      congr 1
      apply propext
      omega
end
end Go.Proofs.Ytjndhjmbdhfclaa
