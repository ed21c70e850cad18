/- ArenaChain's plain laws: a chain of nodes, each the kid of the next one. -/
import Derived.Test.YtjndhjmbdhfclaaKp
import Derived.Test.YtjndhjmbdhfclaaRch
namespace Go.Proofs.Ytjndhjmbdhfclaa
set_option maxRecDepth 100000

def cn (j : Nat) : Nd := ⟨5, (j : Int) - 1, 0, 0, 0, 0, 0⟩
theorem cn_kids (j : Nat) : (cn j).kids = [(j : Int) - 1, 0, 0, 0] := rfl
structure Ch (s : Ar) (k : Nat) (B : Int) : Prop where
  ok : s.Ok B
  n : s.n = 60
  u : ∀ j, 1 ≤ j → j ≤ 60 → s.u j = decide (j ≤ k)
  nd : ∀ j, 1 ≤ j → j ≤ k → s.nd j = cn j
  c : ∀ j, 1 ≤ j → j ≤ k → s.c j = 1
  wt : s.wt = []
  busy : s.busy = k
theorem ch_new : Ch (Ar.new 60) 0 0 := ⟨ok_new (by decide) (by decide), rfl, fun j j1 j2 => (decide_eq_false (by omega)).symm, fun j h1 h2 => by omega, fun j h1 h2 => by omega, rfl, rfl⟩
section
variable {s : Ar} {k : Nat} {B : Int}
theorem drops_one (s : Ar) (x : Int) : s.drops [x, 0, 0, 0] = (s.drop x).1 := by simp [Ar.drops, drop_zero]
theorem Ch.mono {B' : Int} (h : Ch s k B) (hb : B ≤ B') : Ch s k B' := ⟨h.ok.mono hb, h.n, h.u, h.nd, h.c, h.wt, h.busy⟩
theorem Ch.next (h : Ch s k B) (hk : k < 60) : ∃ t u, s.make ⟨5, (k : Int), 0, 0, 0, 0, 0⟩ = (t, (k : Int) + 1, 0) ∧ t.Ok (B + 4) ∧ (k ≠ 0 → t.drop k = (u, 0)) ∧ (k = 0 → u = t) ∧ Ch u (k + 1) (B + 4) := by
  have hf : s.free = k + 1 := free_is (by omega) (by rw [h.n]; omega) (by rw [h.u _ (by omega) (by omega)]; exact decide_eq_false (by omega)) fun j h1 h2 => by rw [h.u j h1 (by omega)]; exact decide_eq_true (by omega)
  have okm := ok_make h.ok ⟨5, (k : Int), 0, 0, 0, 0, 0⟩
  have hcnt : k ≠ 0 → s.count (k : Int) = 1 := fun h0 => by
    unfold Ar.count
    rw [if_neg (by rw [h.n]; omega)]
    exact h.c k (by omega) (Nat.le_refl _)
  have hm : s.make ⟨5, (k : Int), 0, 0, 0, 0, 0⟩ = (s.put (k + 1) ⟨5, (k : Int), 0, 0, 0, 0, 0⟩, (k : Int) + 1, 0) := by
    unfold Ar.make
    rw [if_neg (by show ¬ ((5 : Int) < 1 ∨ (6 : Int) < 5); omega), if_neg, hf, if_neg (by omega)]
    · rfl
    · simp only [Nd.kids, List.any_cons, List.any_nil, Bool.or_false]
      simp only [Ar.bad]
      by_cases h0 : k = 0
      · subst h0; simp
      · rw [hcnt h0]; simp
  rw [hm] at okm
  have hb : ∀ j, 1 ≤ j → j ≤ k + 1 → (s.put (k + 1) ⟨5, (k : Int), 0, 0, 0, 0, 0⟩).c j = if j = k then 2 else 1 := by
    intro j j1 j2
    show upd (bumps s.c [(k : Int), 0, 0, 0]) (k + 1) 1 j = _
    by_cases e : j = k + 1
    · subst e; rw [upd_same, if_neg (by omega)]
    · rw [upd_ne _ _ e]
      show bump s.c (k : Int) j = _
      unfold bump
      rw [if_neg (by omega)]
      by_cases e2 : j = k
      · subst e2; rw [if_pos rfl, show ((j : Int)).toNat = j by omega, upd_same, h.c j j1 (Nat.le_refl _)]; rfl
      · rw [if_neg e2, upd_ne _ _ (by omega), h.c j j1 (by omega)]
  have hn1 : ∀ j, 1 ≤ j → j ≤ k + 1 → (s.put (k + 1) ⟨5, (k : Int), 0, 0, 0, 0, 0⟩).nd j = cn j := by
    intro j j1 j2
    show upd s.nd (k + 1) _ j = _
    by_cases e : j = k + 1
    · subst e; rw [upd_same]; unfold cn; congr 1; omega
    · rw [upd_ne _ _ e]; exact h.nd j j1 (by omega)
  have hu1 : ∀ j, 1 ≤ j → j ≤ 60 → (s.put (k + 1) ⟨5, (k : Int), 0, 0, 0, 0, 0⟩).u j = decide (j ≤ k + 1) := by
    intro j j1 j2
    show upd s.u (k + 1) true j = _
    by_cases e : j = k + 1
    · subst e; rw [upd_same]; exact (decide_eq_true (by omega)).symm
    · rw [upd_ne _ _ e, h.u j j1 j2]
      by_cases g : j ≤ k
      · rw [decide_eq_true g, decide_eq_true (by omega)]
      · rw [decide_eq_false g, decide_eq_false (by omega)]
  by_cases h0 : k = 0
  · subst h0
    refine ⟨_, _, hm, okm, fun h => absurd rfl h, fun _ => rfl, okm, h.n, hu1, hn1, fun j j1 j2 => by rw [hb j j1 j2, if_neg (by omega)], h.wt, ?_⟩
    show s.busy + 1 = _
    rw [h.busy]; rfl
  · have hc2 := hb k (by omega) (by omega)
    rw [if_pos rfl] at hc2
    have hd := drop_had (t := s.put (k + 1) ⟨5, (k : Int), 0, 0, 0, 0, 0⟩) (x := (k : Int)) (by omega) (by show (k : Int) ≤ s.n; rw [h.n]; omega) (by rw [show (k : Int).toNat = k by omega, hc2]; decide)
    have okd := ok_drop okm k
    rw [hd] at okd
    refine ⟨_, _, hm, okm, fun _ => hd, fun e => absurd e h0, okd, h.n, hu1, hn1, fun j j1 j2 => ?_, ?_, ?_⟩
    · rw [drop1_c, hb j j1 j2]
      by_cases e : j = k
      · rw [if_pos e, if_pos (by omega)]; rfl
      · rw [if_neg e, if_neg (by omega)]; rfl
    · unfold Ar.drop1
      rw [show (k : Int).toNat = k by omega, hc2]
      exact h.wt
    · show s.busy + 1 = _
      rw [h.busy]; omega
/-- While the chain is freed from its head on: k are left; the node a is kept. -/
structure Cd (s : Ar) (k a : Nat) (B : Int) : Prop where
  ok : s.Ok B
  n : s.n = 60
  nd : ∀ j, 1 ≤ j → j ≤ k → s.nd j = cn j
  c : ∀ j, 1 ≤ j → j ≤ k → s.c j = if k = a then 1 else if j = k then 0 else if j = a then 2 else 1
  z : ∀ j, k < j → j ≤ 60 → s.c j = 0
  wt : s.wt = if k = a then [] else [(k : Int)]
  busy : s.busy = k
/-- The node a is kept, the head dropped. -/
theorem Ch.cut (h : Ch s k B) (hk : k < 60) {a : Nat} (a1 : 1 ≤ a) (a2 : a ≤ k) : ∃ t u, s.keep a = (t, 0) ∧ t.Ok (B + 1) ∧ t.drop k = (u, 0) ∧ u.Ok (B + 1) ∧ (a = k → u.wt = [] ∧ u.busy = k) ∧ (a ≠ k → Cd u k a (B + 1)) := by
  have okk := ok_keep h.ok (a : Int)
  have hca := h.c a a1 a2
  have hkp : s.keep (a : Int) = ({ s with c := upd s.c a 2 }, 0) := by
    unfold Ar.keep Ar.count
    rw [if_neg (by rw [if_neg (by rw [h.n]; omega), show (a : Int).toNat = a by omega, hca]; decide), show (a : Int).toNat = a by omega, hca]
    rfl
  rw [hkp] at okk
  have hz : ∀ j, k < j → j ≤ 60 → s.c j = 0 := fun j j1 j2 => h.ok.fr j (by rw [h.u j (by omega) j2]; exact decide_eq_false (by omega))
  have hd := drop_had (t := { s with c := upd s.c a 2 }) (x := (k : Int)) (by omega) (by show (k : Int) ≤ s.n; rw [h.n]; omega) (by
    show upd s.c a 2 (k : Int).toNat ≠ 0
    rw [show (k : Int).toNat = k by omega]
    by_cases e : k = a
    · rw [e, upd_same]; decide
    · rw [upd_ne _ _ e, h.c k (by omega) (Nat.le_refl _)]; decide)
  have okd := ok_drop okk k
  rw [hd] at okd
  refine ⟨_, _, hkp, okk, hd, okd, fun e => ⟨?_, h.busy⟩, fun e => ⟨okd, h.n, h.nd, fun j j1 j2 => ?_, fun j j1 j2 => ?_, ?_, h.busy⟩⟩
  · subst e
    exact drop_stays h.wt (by show upd s.c a 2 (a : Int).toNat ≠ 1; rw [show (a : Int).toNat = a by omega, upd_same]; decide)
  · rw [drop1_c, if_neg (show ¬ k = a from fun e2 => e e2.symm)]
    show upd s.c a 2 j - _ = _
    by_cases e1 : j = k
    · rw [if_pos e1, if_pos (show j = (k : Int).toNat by omega), e1, upd_ne _ _ (fun e2 => e e2.symm), h.c k (by omega) (Nat.le_refl _)]; rfl
    · rw [if_neg e1, if_neg (show ¬ j = (k : Int).toNat by omega)]
      by_cases e2 : j = a
      · rw [e2, upd_same, if_pos rfl]; rfl
      · rw [upd_ne _ _ e2, h.c j j1 j2, if_neg e2]; rfl
  · rw [drop1_c, if_neg (by omega)]
    show upd s.c a 2 j - 0 = 0
    rw [upd_ne _ _ (by omega), hz j j1 j2]; rfl
  · rw [if_neg (fun e2 => e e2.symm)]
    exact drop_waits h.wt (by show upd s.c a 2 (k : Int).toNat = 1; rw [show (k : Int).toNat = k by omega, upd_ne _ _ (fun e2 => e e2.symm)]; exact h.c k (by omega) (Nat.le_refl _))
theorem Cd.next {a : Nat} (h : Cd s (k + 1) a B) (hk : k + 1 ≤ 60) (a1 : 1 ≤ a) (hak : a < k + 1) : ∃ t, s.work 1 = (t, 1) ∧ Cd t k a B := by
  have hw := h.wt
  rw [if_neg (show ¬ k + 1 = a by omega)] at hw
  have hnd := h.nd (k + 1) (by omega) (Nat.le_refl _)
  have okw := ok_work 1 h.ok
  have e0 : s.work 1 = ((s.free1 ((k + 1 : Nat) : Int) []), 1) := by
    unfold Ar.work
    rw [hw]
    simp only [Ar.work]
  rw [e0] at okw
  have e1 : s.free1 ((k + 1 : Nat) : Int) [] = ((s.pop ((k + 1 : Nat) : Int) []).drop (k : Int)).1 := by
    rw [free1_eq, show (((k + 1 : Nat) : Int)).toNat = k + 1 by omega, hnd, cn_kids, show ((k + 1 : Nat) : Int) - 1 = (k : Int) by omega, drops_one]
  have hck := h.c k (by omega) (by omega)
  rw [if_neg (show ¬ k + 1 = a by omega), if_neg (show ¬ k = k + 1 by omega)] at hck
  have hd := drop_had (t := s.pop ((k + 1 : Nat) : Int) []) (x := (k : Int)) (by omega) (by show (k : Int) ≤ s.n; rw [h.n]; omega) (by show s.c (k : Int).toNat ≠ 0; rw [show (k : Int).toNat = k by omega, hck]; split <;> decide)
  rw [e1, hd] at okw
  refine ⟨_, by rw [e0, e1, hd], okw, h.n, fun j j1 j2 => ?_, fun j j1 j2 => ?_, fun j j1 j2 => ?_, ?_, ?_⟩
  · show upd s.nd ((k + 1 : Nat) : Int).toNat Nd.zero j = _
    rw [upd_ne _ _ (by omega)]
    exact h.nd j j1 (by omega)
  · rw [drop1_c]
    show s.c j - _ = _
    rw [h.c j j1 (by omega), if_neg (show ¬ k + 1 = a by omega), if_neg (show ¬ j = k + 1 by omega)]
    by_cases e2 : k = a
    · rw [if_pos e2]
      by_cases e3 : j = k
      · rw [if_pos (show j = a by omega), if_pos (by omega)]; rfl
      · rw [if_neg (show ¬ j = a by omega), if_neg (by omega)]; rfl
    · rw [if_neg e2]
      by_cases e3 : j = k
      · rw [if_pos e3, if_neg (show ¬ j = a by omega), if_pos (by omega)]; rfl
      · rw [if_neg e3, if_neg (show ¬ j = (k : Int).toNat by omega)]; omega
  · rw [drop1_c, if_neg (by omega)]
    show s.c j - 0 = 0
    by_cases e2 : j = k + 1
    · rw [e2, h.c (k + 1) (by omega) (Nat.le_refl _), if_neg (show ¬ k + 1 = a by omega), if_pos rfl]; rfl
    · rw [h.z j (by omega) j2]; rfl
  · by_cases e2 : k = a
    · rw [if_pos e2]
      refine drop_stays rfl ?_
      show s.c (k : Int).toNat ≠ 1
      rw [show (k : Int).toNat = k by omega, hck, if_pos e2]; decide
    · rw [if_neg e2]
      refine drop_waits rfl ?_
      show s.c (k : Int).toNat = 1
      rw [show (k : Int).toNat = k by omega, hck, if_neg e2]
  · show s.busy - 1 = _
    rw [h.busy]; omega
theorem Cd.count {a : Nat} (h : Cd s a a B) (ha : a ≤ 60) (j : Int) : s.count j ≠ 0 ↔ 1 ≤ j ∧ j ≤ a := by
  unfold Ar.count
  by_cases e : j < 1 ∨ (s.n : Int) < j
  · rw [if_pos e, h.n] at *
    constructor
    · exact fun g => absurd rfl g
    · intro g; omega
  · rw [if_neg e]
    rw [h.n] at e
    by_cases g : j.toNat ≤ a
    · rw [h.c j.toNat (by omega) g, if_pos rfl]
      exact ⟨fun _ => by omega, fun _ => by decide⟩
    · rw [h.z j.toNat (by omega) (by omega)]
      exact ⟨fun g => absurd rfl g, fun g => by omega⟩
theorem Cd.rch {a : Nat} (h : Cd s a a B) (a1 : 1 ≤ a) (ha : a ≤ 60) (x : Int) : Rch s [(a : Int)] x ↔ 1 ≤ x ∧ x ≤ a := by
  refine ⟨fun r => (h.count ha x).1 r.live, ?_⟩
  have key : ∀ d : Nat, d < a → Rch s [(a : Int)] (((a - d : Nat) : Int)) := by
    intro d
    induction d with
    | zero => intro _; exact .root (by simp) ((h.count ha _).2 (by omega))
    | succ d ih =>
      intro hd
      refine .kid (ih (by omega)) ?_ ((h.count ha _).2 (by omega))
      rw [show (((a - d : Nat) : Int)).toNat = a - d by omega, h.nd (a - d) (by omega) (by omega), cn_kids]
      simp
      omega
  rintro ⟨x1, x2⟩
  have := key (a - x.toNat) (by omega)
  rwa [show ((a - (a - x.toNat) : Nat) : Int) = x by omega] at this
/-- All numbers from 1 on. -/
def upto (a : Nat) : List Int := (List.range a).map fun (i : Nat) => (i : Int) + 1
theorem upto_asc (a : Nat) : Asc (upto a) := by
  unfold upto Asc
  rw [List.pairwise_map]
  exact List.pairwise_lt_range.imp fun h => by omega
theorem mem_upto {a : Nat} {x : Int} : x ∈ upto a ↔ 1 ≤ x ∧ x ≤ a := by
  unfold upto
  simp only [List.mem_map, List.mem_range]
  constructor
  · rintro ⟨i, h, rfl⟩; omega
  · intro h; exact ⟨(x - 1).toNat, by omega, by omega⟩
theorem upto_len (a : Nat) : (upto a).length = a := by simp [upto]
end
end Go.Proofs.Ytjndhjmbdhfclaa
