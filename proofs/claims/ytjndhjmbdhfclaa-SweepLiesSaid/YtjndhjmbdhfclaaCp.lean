/- CellPlays' plain laws: an arena of nodes without kids; who has them is the version, and those that were read. -/
import Derived.Test.YtjndhjmbdhfclaaPure2
namespace Go.Proofs.Ytjndhjmbdhfclaa
set_option maxRecDepth 100000

/-- Each count is how often a node was read, and one more if it is the version. -/
structure CP (N : Nat) (s : Ar) (root : Int) (rd : List Int) (B : Int) : Prop where
  ok : s.Ok B
  n : s.n = N
  eq : ∀ k : Nat, 1 ≤ k → k ≤ N → s.c k = rd.count (k : Int) + if root = (k : Int) then 1 else 0
  kz : ∀ k, (s.nd k).kids = [0, 0, 0, 0]
  root : 0 ≤ root ∧ root ≤ N
  rng : ∀ x, x ∈ rd → 1 ≤ x ∧ x ≤ N
section
variable {N : Nat} {s : Ar} {root : Int} {rd : List Int} {B : Int}
theorem cp_new {N : Nat} (h1 : 1 ≤ N) (h2 : N ≤ 6000) : CP N (Ar.new N) 0 [] 0 :=
  ⟨ok_new h1 h2, rfl, fun k k1 _ => by rw [if_neg (by omega)]; rfl, fun _ => rfl, by omega, fun x h => (by cases h)⟩
theorem CP.mono {B' : Int} (h : CP N s root rd B) (hb : B ≤ B') : CP N s root rd B' := ⟨h.ok.mono hb, h.n, h.eq, h.kz, h.root, h.rng⟩
/-- A node is made, if there is room: nobody has it yet but its maker. -/
theorem CP.make (h : CP N s root rd B) (v : Int) :
    s.make ⟨6, 0, 0, 0, 0, v, 0⟩ = (s, 0, 2) ∨ ∃ t f, s.make ⟨6, 0, 0, 0, 0, v, 0⟩ = (t, f, 0) ∧ 1 ≤ f ∧ f ≤ N ∧ f ∉ rd ∧ root ≠ f ∧ t.Ok (B + 4) ∧ t.n = N ∧ t.count f = 1 ∧
      (∀ k : Nat, 1 ≤ k → k ≤ N → t.c k = (rd.count (k : Int) + if root = (k : Int) then 1 else 0) + if f = (k : Int) then 1 else 0) ∧ ∀ k, (t.nd k).kids = [0, 0, 0, 0] := by
  have hm := ok_make h.ok ⟨6, 0, 0, 0, 0, v, 0⟩
  by_cases hf : s.free = 0
  · exact .inl (make_none ⟨by show (1:Int) ≤ 6; omega, by show (6:Int) ≤ 6; omega⟩ rfl hf)
  · right
    obtain ⟨f1, f2⟩ := free_in hf
    rw [h.n] at f2
    have fu := free_unused hf
    have fc := h.ok.fr _ fu
    have he := h.eq s.free f1 f2
    rw [fc] at he
    have e1 : rd.count (s.free : Int) = 0 := by split at he <;> omega
    have e2 : root ≠ (s.free : Int) := fun e => by rw [if_pos e] at he; omega
    rw [make_leaf ⟨by show (1:Int) ≤ 6; omega, by show (6:Int) ≤ 6; omega⟩ rfl hf] at hm ⊢
    refine ⟨_, _, rfl, by omega, by omega, List.count_eq_zero.1 e1, e2, hm, h.n, ?_, fun k k1 k2 => ?_, fun k => ?_⟩
    · unfold Ar.count
      rw [if_neg (by show ¬ ((s.free : Int) < 1 ∨ (s.n : Int) < s.free); rw [h.n]; omega)]
      exact upd_same _ _ _
    · show upd s.c s.free 1 k = _
      by_cases e : k = s.free
      · subst e; rw [upd_same, e1, if_neg e2, if_pos rfl]; rfl
      · rw [upd_ne _ _ e, h.eq k k1 k2, if_neg (fun g : (s.free : Int) = (k : Int) => e (by omega))]; omega
    · show (upd s.nd s.free _ k).kids = _
      by_cases e : k = s.free
      · subst e; rw [upd_same]; rfl
      · rw [upd_ne _ _ e]; exact h.kz k
/-- What drops one that somebody has. -/
theorem drop_had {t : Ar} {x : Int} (h1 : 1 ≤ x) (h2 : x ≤ t.n) (hc : t.c x.toNat ≠ 0) : t.drop x = (t.drop1 x, 0) := by
  unfold Ar.drop Ar.count
  rw [if_neg (by rw [if_neg (by omega)]; exact hc)]
theorem drop1_c (t : Ar) (x : Int) (k : Nat) : (t.drop1 x).c k = t.c k - if k = x.toNat then 1 else 0 := by
  show upd t.c x.toNat _ k = _
  by_cases e : k = x.toNat
  · subst e; rw [upd_same, if_pos rfl]
  · rw [upd_ne _ _ e, if_neg e]; omega
/-- It becomes the version. -/
theorem CP.publish {t : Ar} {f : Int} (h : CP N s root rd B) (f1 : 0 ≤ f) (f2 : f ≤ N) (ok : t.Ok (B + 4)) (hn : t.n = N)
    (hc : ∀ k : Nat, 1 ≤ k → k ≤ N → t.c k = (rd.count (k : Int) + if root = (k : Int) then 1 else 0) + if f = (k : Int) then 1 else 0) (hk : ∀ k, (t.nd k).kids = [0, 0, 0, 0]) :
    ∃ u e, t.drop root = (u, e) ∧ CP N u f rd (B + 4) := by
  have o := ok_drop ok root
  have hr := h.root
  by_cases r0 : root = 0
  · subst r0
    rw [drop_zero] at o ⊢
    refine ⟨_, _, rfl, o, hn, fun k k1 k2 => ?_, hk, ⟨f1, f2⟩, h.rng⟩
    rw [hc k k1 k2, if_neg (show ¬ ((0 : Int) = (k : Int)) by omega)]; omega
  · have hcr := hc root.toNat (by omega) (by omega)
    rw [if_pos (show root = ((root.toNat : Nat) : Int) by omega)] at hcr
    have e := drop_had (t := t) (x := root) (by omega) (by rw [hn]; omega) (by split at hcr <;> omega)
    rw [e] at o ⊢
    refine ⟨_, _, rfl, o, hn, fun k k1 k2 => ?_, hk, ⟨f1, f2⟩, h.rng⟩
    rw [drop1_c, hc k k1 k2]
    by_cases e : k = root.toNat
    · rw [if_pos e, if_pos (show root = (k : Int) by omega)]; omega
    · rw [if_neg e, if_neg (show ¬ root = (k : Int) by omega)]; omega
/-- It comes too late: its maker drops it. -/
theorem CP.late {t : Ar} {f : Int} (h : CP N s root rd B) (f1 : 1 ≤ f) (f2 : f ≤ N) (ok : t.Ok (B + 4)) (hn : t.n = N) (hcf : t.count f = 1)
    (hc : ∀ k : Nat, 1 ≤ k → k ≤ N → t.c k = (rd.count (k : Int) + if root = (k : Int) then 1 else 0) + if f = (k : Int) then 1 else 0) (hk : ∀ k, (t.nd k).kids = [0, 0, 0, 0]) :
    ∃ u, t.drop f = (u, 0) ∧ CP N u root rd (B + 4) := by
  have o := ok_drop ok f
  have hcf' : t.c f.toNat = 1 := by unfold Ar.count at hcf; rwa [if_neg (by omega)] at hcf
  have e := drop_had (t := t) (x := f) f1 (by omega) (by omega)
  rw [e] at o ⊢
  refine ⟨_, rfl, o, hn, fun k k1 k2 => ?_, hk, h.root, h.rng⟩
  rw [drop1_c, hc k k1 k2]
  by_cases e : k = f.toNat
  · rw [if_pos e, if_pos (show f = (k : Int) by omega)]; omega
  · rw [if_neg e, if_neg (show ¬ f = (k : Int) by omega)]; omega
/-- No version: nothing is made of it. -/
theorem CP.none (h : CP N s root rd B) : ∃ u e, s.drop root = (u, e) ∧ CP N u 0 rd (B + 4) :=
  h.publish (t := s) (by omega) (by omega) (h.ok.mono (by omega)) h.n (fun k k1 k2 => by rw [h.eq k k1 k2, if_neg (show ¬ (0 : Int) = (k : Int) by omega)]; omega) h.kz
theorem count_snoc (l : List Int) (x y : Int) : (l ++ [x]).count y = l.count y + if x = y then 1 else 0 := by
  rw [List.count_append, List.count_singleton]
  by_cases e : x = y
  · rw [if_pos e, if_pos (by simpa using e)]
  · rw [if_neg e, if_neg (by simpa using e)]
/-- It is read. -/
theorem CP.read (h : CP N s root rd B) (hr : root ≠ 0) : ∃ t, s.keep root = (t, 0) ∧ CP N t root (rd ++ [root]) (B + 1) := by
  have r := h.root
  have hcr := h.eq root.toNat (by omega) (by omega)
  rw [if_pos (show root = ((root.toNat : Nat) : Int) by omega)] at hcr
  have o := ok_keep h.ok root
  have e : s.keep root = ({ s with c := upd s.c root.toNat (s.c root.toNat + 1) }, 0) := by
    unfold Ar.keep Ar.count
    rw [if_neg (by rw [if_neg (by rw [h.n]; omega)]; omega)]
  rw [e] at o ⊢
  refine ⟨_, rfl, o, h.n, fun k k1 k2 => ?_, h.kz, h.root, fun x hx => ?_⟩
  · show upd s.c root.toNat _ k = _
    rw [count_snoc]
    by_cases e : k = root.toNat
    · subst e
      have g : root = ((root.toNat : Nat) : Int) := by omega
      rw [upd_same, hcr]; simp only [if_pos g]; omega
    · have g : ¬ root = (k : Int) := by omega
      rw [upd_ne _ _ e, h.eq k k1 k2]; simp only [if_neg g]; omega
  · rcases List.mem_append.1 hx with hx | hx
    · exact h.rng x hx
    · have : x = root := by simpa using hx
      omega
theorem count_cut (l : List Int) {i : Nat} (hi : i < l.length) (y : Int) : (l.take i ++ l.drop (i + 1)).count y + (if l.getD i 0 = y then 1 else 0) = l.count y := by
  have e : l = l.take i ++ (l.getD i 0 :: l.drop (i + 1)) := by
    have := List.take_append_drop i l
    rw [List.drop_eq_getElem_cons hi] at this
    rw [List.getD_eq_getElem?_getD, List.getElem?_eq_getElem hi]
    exact this.symm
  have e2 : l.count y = (l.take i ++ (l.getD i 0 :: l.drop (i + 1))).count y := by rw [← e]
  rw [e2, List.count_append, List.count_append, List.count_cons]
  by_cases e : l.getD i 0 = y
  · rw [if_pos e, if_pos (by simpa using e)]; omega
  · rw [if_neg e, if_neg (by simpa using e)]; omega
/-- One that was read is dropped. -/
theorem CP.drop (h : CP N s root rd B) {i : Nat} (hi : i < rd.length) : ∃ t, s.drop (rd.getD i 0) = (t, 0) ∧ CP N t root (rd.take i ++ rd.drop (i + 1)) B := by
  have hm : rd.getD i 0 ∈ rd := by
    rw [List.getD_eq_getElem?_getD, List.getElem?_eq_getElem hi]
    exact List.getElem_mem _
  have hr := h.rng _ hm
  have hcu := fun y => count_cut rd hi y
  generalize rd.getD i 0 = x at *
  have hc := h.eq x.toNat (by omega) (by omega)
  have h1 : 1 ≤ rd.count x := List.count_pos_iff.2 hm
  rw [show ((x.toNat : Nat) : Int) = x by omega] at hc
  have o := ok_drop h.ok x
  have e := drop_had (t := s) (x := x) (by omega) (by rw [h.n]; omega) (by split at hc <;> omega)
  rw [e] at o ⊢
  refine ⟨_, rfl, o, h.n, fun k k1 k2 => ?_, h.kz, h.root, fun y hy => h.rng y ?_⟩
  · rw [drop1_c, h.eq k k1 k2, ← hcu (k : Int)]
    by_cases e : k = x.toNat
    · rw [if_pos e, if_pos (show x = (k : Int) by omega)]; omega
    · rw [if_neg e, if_neg (show ¬ x = (k : Int) by omega)]; omega
  · rcases List.mem_append.1 hy with hy | hy
    · exact List.mem_of_mem_take hy
    · exact List.mem_of_mem_drop hy
theorem CP.work (h : CP N s root rd B) : ∀ m, CP N (s.work m).1 root rd B := by
  intro m
  have o := ok_work m h.ok
  have key : ∀ (m : Nat) (s : Ar), (∀ k, (s.nd k).kids = [0, 0, 0, 0]) → (s.work m).1.c = s.c ∧ (s.work m).1.n = s.n ∧ ∀ k, ((s.work m).1.nd k).kids = [0, 0, 0, 0] := by
    intro m
    induction m with
    | zero => exact fun s hk => ⟨rfl, rfl, hk⟩
    | succ m ih =>
      intro s hk
      unfold Ar.work
      split
      · exact ⟨rfl, rfl, hk⟩
      · rename_i x r hw
        have e : s.free1 x r = s.pop x r := by rw [free1_eq, hk, drops_zero]
        have hk2 : ∀ k, ((s.pop x r).nd k).kids = [0, 0, 0, 0] := fun k => by
          show (upd s.nd x.toNat Nd.zero k).kids = _
          by_cases e : k = x.toNat
          · subst e; rw [upd_same]; rfl
          · rw [upd_ne _ _ e]; exact hk k
        obtain ⟨a, b, c⟩ := ih (s.pop x r) hk2
        rw [e]
        exact ⟨a, b, c⟩
  obtain ⟨a, b, c⟩ := key m s h.kz
  exact ⟨o, b.trans h.n, fun k k1 k2 => by rw [a]; exact h.eq k k1 k2, c, h.root, h.rng⟩
theorem CP.count (h : CP N s root rd B) {k : Nat} (k1 : 1 ≤ k) (k2 : k ≤ N) : s.count (k : Int) = rd.count (k : Int) + if root = (k : Int) then 1 else 0 := by
  unfold Ar.count
  rw [if_neg (by rw [h.n]; omega)]
  exact h.eq k k1 k2
end
end Go.Proofs.Ytjndhjmbdhfclaa
