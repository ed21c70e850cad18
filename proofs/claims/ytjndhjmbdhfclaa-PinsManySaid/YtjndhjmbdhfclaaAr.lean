/- ArenaReach's plain laws; a set of numbers that are put in more than once. -/
import Derived.Test.YtjndhjmbdhfclaaChn
import Derived.Test.YtjndhjmbdhfclaaSm
namespace Go.Proofs.Ytjndhjmbdhfclaa
set_option maxRecDepth 100000
open Go.RowKit Go.Maps

theorem rch_pair {s : Ar} {x y z : Int} : Rch s [x, y] z ↔ Rch s [x] z ∨ Rch s [y] z := by
  constructor
  · intro h
    induction h with
    | root h1 h2 =>
      simp at h1
      rcases h1 with rfl | rfl
      · exact .inl (.root (by simp) h2)
      · exact .inr (.root (by simp) h2)
    | kid _ h2 h3 ih => exact ih.imp (fun h => .kid h h2 h3) (fun h => .kid h h2 h3)
  · rintro (h | h)
    · exact h.mono fun r hr => by simp at hr ⊢; exact .inl hr
    · exact h.mono fun r hr => by simp at hr ⊢; exact .inr hr
theorem rch_none {s : Ar} {l : List Int} (h : ∀ r, r ∈ l → s.count r = 0) (x : Int) : ¬ Rch s l x := by
  intro hr
  induction hr with
  | root h1 h2 => exact h2 (h _ h1)
  | kid _ _ _ ih => exact ih
theorem same_length {a b : List Int} (ha : a.Nodup) (hb : b.Nodup) (h : ∀ x, x ∈ a ↔ x ∈ b) : a.length = b.length :=
  ((List.perm_ext_iff_of_nodup ha hb).2 h).length_eq
/-- The tree of ArenaReach: k nodes, each live. -/
structure Tv (s : Ar) (k : Nat) (B : Int) : Prop where
  ok : s.Ok B
  n : s.n = 40
  u : ∀ j, 1 ≤ j → j ≤ 40 → s.u j = decide (j ≤ k)
  c : ∀ j, 1 ≤ j → j ≤ k → 1 ≤ s.c j
theorem tv_new : Tv (Ar.new 40) 0 0 := ⟨ok_new (by decide) (by decide), rfl, fun j j1 j2 => (decide_eq_false (by omega)).symm, fun j h1 h2 => by omega⟩
theorem bumps_up : ∀ (l : List Int) (c : Nat → Int) (i : Nat), c i ≤ bumps c l i
  | [], _, _ => Int.le_refl _
  | y :: r, c, i => by
    have := bumps_up r (bump c y) i
    simp only [bumps, List.foldl_cons] at this ⊢
    refine Int.le_trans ?_ this
    unfold bump
    by_cases e : y = 0
    · rw [if_pos e]; exact Int.le_refl _
    · rw [if_neg e]
      by_cases e2 : i = y.toNat
      · rw [e2, upd_same]; omega
      · rw [upd_ne _ _ e2]; exact Int.le_refl _
section
variable {s : Ar} {k : Nat} {B : Int}
theorem Tv.mono {B' : Int} (h : Tv s k B) (hb : B ≤ B') : Tv s k B' := ⟨h.ok.mono hb, h.n, h.u, h.c⟩
theorem Tv.live (h : Tv s k B) {x : Int} (x1 : 1 ≤ x) (x2 : x ≤ k) (hk : k ≤ 40) : s.count x ≠ 0 := by
  unfold Ar.count
  rw [if_neg (by rw [h.n]; omega)]
  have := h.c x.toNat (by omega) (by omega)
  omega
theorem Tv.next (h : Tv s k B) (hk : k < 40) {x : Nd} (ht : 1 ≤ x.tag ∧ x.tag ≤ 6) (hx : ∀ y, y ∈ x.kids → y = 0 ∨ (1 ≤ y ∧ y ≤ k)) : ∃ t, s.make x = (t, (k : Int) + 1, 0) ∧ Tv t (k + 1) (B + 4) := by
  have hf : s.free = k + 1 := free_is (by omega) (by rw [h.n]; omega) (by rw [h.u _ (by omega) (by omega)]; exact decide_eq_false (by omega)) fun j h1 h2 => by rw [h.u j h1 (by omega)]; exact decide_eq_true (by omega)
  have okm := ok_make h.ok x
  have hm : s.make x = (s.put (k + 1) x, (k : Int) + 1, 0) := by
    unfold Ar.make
    rw [if_neg (by omega), if_neg, hf, if_neg (by omega)]
    · rfl
    · rw [Bool.not_eq_true, List.any_eq_false]
      intro y hy hb
      obtain ⟨b1, b2⟩ := bad_iff.1 hb
      rcases hx y hy with e | ⟨e1, e2⟩
      · exact b1 e
      · exact h.live e1 e2 (by omega) b2
  rw [hm] at okm
  refine ⟨_, hm, okm, h.n, fun j j1 j2 => ?_, fun j j1 j2 => ?_⟩
  · show upd s.u (k + 1) true j = _
    by_cases e : j = k + 1
    · subst e; rw [upd_same]; exact (decide_eq_true (by omega)).symm
    · rw [upd_ne _ _ e, h.u j j1 j2]
      by_cases g : j ≤ k
      · rw [decide_eq_true g, decide_eq_true (by omega)]
      · rw [decide_eq_false g, decide_eq_false (by omega)]
  · show 1 ≤ upd (bumps s.c x.kids) (k + 1) 1 j
    by_cases e : j = k + 1
    · subst e; rw [upd_same]; omega
    · rw [upd_ne _ _ e]
      have := h.c j j1 (by omega)
      have := bumps_up x.kids s.c j
      omega
theorem Tv.none (h : Tv s k B) (hk : k < 40) (r : Int) (hr : r ∈ [0, (k : Int) + 1, -1]) : s.count r = 0 := by
  simp at hr
  unfold Ar.count
  rcases hr with rfl | rfl | rfl
  · rw [if_pos (by omega)]
  · rw [if_neg (by rw [h.n]; omega), show ((k : Int) + 1).toNat = k + 1 by omega]
    exact h.ok.fr _ (by rw [h.u _ (by omega) (by omega)]; exact decide_eq_false (by omega))
  · rw [if_pos (by omega)]
end
/-- What is put into a set. -/
def sadd (xs : List Int) (k : Int) : List Int := if k ∈ xs then xs else k :: xs
theorem mem_sadd {xs : List Int} {k z : Int} : z ∈ sadd xs k ↔ z = k ∨ z ∈ xs := by
  unfold sadd
  split
  · exact ⟨.inr, fun h => by rcases h with rfl | h <;> assumption⟩
  · simp
theorem nodup_sadd {xs : List Int} {k : Int} (h : xs.Nodup) : (sadd xs k).Nodup := by
  unfold sadd
  split
  · exact h
  · exact List.nodup_cons.2 ⟨by assumption, h⟩
theorem owns_tight' {H : Type} {w : World} {P : Program} {k : TypeId} {R : Value → Option (DataW H × List MemPlace)} {b n : Nat} {D : DataW H} (h : w.ownsMap P k R b n D) : w.ownsMap P k R b (size D) D := by
  obtain ⟨es, clock, h1, F, hs, rfl⟩ := h
  exact ⟨es, clock, h1, F, by simp [size, length_sorted], rfl⟩
theorem wpList_smap_add {w : World} {b : Nat} {xs : List Int} (hm : SMap w b xs) (hn : xs.length ≤ 1000000000) {ops : Array Oper} {rest : List Oper} {o : Oper} {a : Act} {Q : Exit → Act → World → Prop}
    (hg : o.guard = none) (m x v : Operand) (hop : o.op = Op.mapUpdate 32 m x v) (h1 : a.eval m = .map (some b)) (k : Int) (h2 : a.eval x = .int .i64 k) (h3 : a.eval v = .bool true) (hk : (Lit.int .i64 k).wf = true)
    (h : ∀ w', SMap w' b (sadd xs k) → w.grownBy w' (some b) → wpList Try.prog ops Q rest (a.put o.dst undef) w') : wpList Try.prog ops Q (o :: rest) a w := by
  by_cases hin : k ∈ xs
  · obtain ⟨D, hD, hat, hhas, hsz⟩ := hm
    refine wpList_mapUpdate_own w hg m x v 32 hop 3 4 skeyed_int Try.underlying32 (plainElem Try.prog 4) b _ D h1 hD (by unfold maxLen; omega) _ _ (.int .i64 k) h2 h3 (keyOf_int_mk Try.underlying3 hk) (.lit (.bool true)) [] (plainElem_bool Try.underlying4 true) fun w' r1 r2 => h w' ?_ r2
    have hs : size (D.put (.int .i64 k) (.lit (.bool true))) = xs.length := by
      rw [size_put (hD.tidy skeyed_int), hhas k hk, hsz]
      simp [hin]
    unfold sadd
    rw [if_pos hin]
    refine ⟨_, by rw [← hs]; exact owns_tight' r1, fun j hj => ?_, fun j hj => ?_, hs⟩
    · by_cases e : j = k
      · subst e
        rw [atKey_put_same hD.isMap (by trivial)]
        simp [hin]
      · rw [atKey_put_other (by intro e'; injection e' with _ e'; exact e e'), hat j hj]
    · by_cases e : j = k
      · subst e
        rw [has_put_same hD.isMap (by trivial)]
        simp [hin]
      · rw [has_put_other (by intro e'; injection e' with _ e'; exact e e'), hhas j hj]
  · refine wpList_smap_put hm hn hg m x v hop h1 k h2 h3 hk hin fun w' r1 r2 => h w' ?_ r2
    unfold sadd
    rw [if_neg hin]
    exact r1
theorem wpList_smap_len {w : World} {b : Nat} {xs : List Int} (hm : SMap w b xs) {ops : Array Oper} {rest : List Oper} {o : Oper} {a : Act} {Q : Exit → Act → World → Prop} (hgd : o.guard = none) (m : Operand)
    (ho : o.op = Op.call { callee := Callee.builtin Builtin.len, args := #[m], argTypes := #[32] }) (h1 : a.eval m = .map (some b))
    (hK : wpList Try.prog ops Q rest (a.put o.dst (.int .i64 xs.length)) w) : wpList Try.prog ops Q (o :: rest) a w := by
  refine wpList_plain hgd fun K' hK' => ?_
  have hrun := hm.len o.type
  unfold Oper.wp
  simp [execOp, ho, resolve, invoke, builtin, h1, hrun, Result.andThen]
  exact hK' _ _ hK
end Go.Proofs.Ytjndhjmbdhfclaa
