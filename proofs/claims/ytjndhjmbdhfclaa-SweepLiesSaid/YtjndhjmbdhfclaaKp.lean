/- PinsKeep's plain laws: one version behind the other, one of them kept. -/
import Derived.Test.YtjndhjmbdhfclaaCp
import Derived.Test.YtjndhjmbdhfclaaAcc2
namespace Go.Proofs.Ytjndhjmbdhfclaa
set_option maxRecDepth 100000

def vn (v : Int) : Nd := ⟨6, 0, 0, 0, 0, v, 0⟩
structure KP (s : Ar) (i k root : Int) (rd : List Int) (B : Int) : Prop where
  cp : CP 30 s root rd B
  wt : s.wt = []
  us : ∀ j : Nat, 1 ≤ j → j ≤ 30 → (s.u j = true ↔ (j : Int) = root ∨ (j : Int) ∈ rd)
  ndr : root ≠ 0 → s.nd root.toNat = vn i
  ndp : ∀ x, x ∈ rd → s.nd x.toNat = vn k
  rl : rd.length ≤ 1
  ri : (root = 0 ↔ i = 0)
theorem kp_new (k : Int) : KP (Ar.new 30) 0 k 0 [] 0 :=
  ⟨cp_new (by decide) (by decide), rfl, fun j j1 j2 => ⟨fun h => (by cases h), fun h => (by rcases h with h | h; omega; cases h)⟩, fun h => absurd rfl h, fun x h => (by cases h), Nat.zero_le _, ⟨fun _ => rfl, fun _ => rfl⟩⟩
section
variable {s : Ar} {i k root B : Int} {rd : List Int}
theorem freeFrom_all {s : Ar} : ∀ (d h : Nat), 1 ≤ h → s.freeFrom d h = 0 → ∀ j, h ≤ j → j < h + d → s.u j = true
  | 0, h, _, _, j, j1, j2 => by omega
  | d + 1, h, h1, e, j, j1, j2 => by
    unfold Ar.freeFrom at e
    by_cases g : s.u h = true
    · rw [if_pos g] at e
      by_cases ej : j = h
      · rw [ej]; exact g
      · exact freeFrom_all d (h + 1) (by omega) e j (by omega) (by omega)
    · rw [if_neg g] at e; omega
theorem KP.free (h : KP s i k root rd B) : s.free ≠ 0 := by
  intro e
  have hn := h.cp.n
  have ha := freeFrom_all s.n 1 (Nat.le_refl _) e
  rw [hn] at ha
  have h1 := (h.us 1 (by omega) (by omega)).1 (ha 1 (by omega) (by omega))
  have h2 := (h.us 2 (by omega) (by omega)).1 (ha 2 (by omega) (by omega))
  have h3 := (h.us 3 (by omega) (by omega)).1 (ha 3 (by omega) (by omega))
  have hl := h.rl
  match rd, hl with
  | [], _ => simp at h1 h2 h3; omega
  | [x], _ => simp at h1 h2 h3; omega
/-- It is read once more: kept. -/
theorem KP.keep (h : KP s i i root [] B) (hr : root ≠ 0) : ∃ t, s.keep root = (t, 0) ∧ KP t i i root [root] (B + 1) := by
  obtain ⟨t, e, hc⟩ := h.cp.read hr
  have et : t = { s with c := upd s.c root.toNat (s.c root.toNat + 1) } := by
    unfold Ar.keep at e
    split at e
    · injection e with _ e; cases e
    · injection e with e _; exact e.symm
  refine ⟨t, e, hc, by rw [et]; exact h.wt, fun j j1 j2 => ?_, fun _ => by rw [et]; exact h.ndr hr, fun x hx => ?_, Nat.le_refl _, h.ri⟩
  · rw [et]
    have := h.us j j1 j2
    simp at this ⊢
    exact this
  · have : x = root := by simpa using hx
    rw [this, et]
    exact h.ndr hr
theorem work_none {s : Ar} (h : s.wt = []) (m : Nat) : s.work m = (s, 0) := by
  cases m with
  | zero => rfl
  | succ m => unfold Ar.work; rw [h]
/-- One that nobody has any more is freed. -/
theorem work_one {s : Ar} {x : Int} (h : s.wt = [x]) (hk : (s.nd x.toNat).kids = [0, 0, 0, 0]) (m : Nat) : s.work (m + 1) = (s.pop x [], 1) := by
  unfold Ar.work
  rw [h]
  simp only [free1_eq, hk, drops_zero]
  rw [work_none (s := s.pop x []) rfl]
theorem drop_waits {t : Ar} {x : Int} (hw : t.wt = []) (hc : t.c x.toNat = 1) : (t.drop1 x).wt = [x] := by
  unfold Ar.drop1
  rw [hc]
  show t.wt ++ [x] = _
  rw [hw]; rfl
theorem drop_stays {t : Ar} {x : Int} (hw : t.wt = []) (hc : t.c x.toNat ≠ 1) : (t.drop1 x).wt = [] := by
  unfold Ar.drop1
  show (if t.c x.toNat - 1 = 0 then t.wt ++ [x] else t.wt) = _
  rw [if_neg (by omega), hw]
/-- One round: a node is made, published, and what nobody has is freed. -/
theorem KP.next (h : KP s i k root rd B) (hi : 0 ≤ i) : ∃ t f u e v m, s.make (vn (i + 1)) = (t, f, 0) ∧ t.Ok (B + 4) ∧ t.drop root = (u, e) ∧ u.Ok (B + 4) ∧ u.work 5 = (v, m) ∧ KP v (i + 1) k f rd (B + 4) ∧ f ∉ rd ∧ f ≠ 0 := by
  have hf := h.free
  obtain ⟨f1, f2⟩ := free_in hf
  rw [h.cp.n] at f2
  have fu := free_unused hf
  rcases h.cp.make (i + 1) with hm | ⟨t, f, hm, g1, g2, g3, g4, ok, tn, tc, teq, tk⟩
  · have := make_leaf (s := s) (x := vn (i + 1)) ⟨by show (1:Int) ≤ 6; omega, by show (6:Int) ≤ 6; omega⟩ rfl hf
    rw [show vn (i + 1) = ⟨6, 0, 0, 0, 0, i + 1, 0⟩ from rfl, hm] at this
    injection this with _ this
    injection this with _ this
    cases this
  have hm' := make_leaf (s := s) (x := vn (i + 1)) ⟨by show (1:Int) ≤ 6; omega, by show (6:Int) ≤ 6; omega⟩ rfl hf
  rw [show vn (i + 1) = ⟨6, 0, 0, 0, 0, i + 1, 0⟩ from rfl, hm] at hm'
  injection hm' with et hm'
  injection hm' with ef _
  have tu : ∀ j : Nat, t.u j = if j = f.toNat then true else s.u j := fun j => by
    rw [et]
    show upd s.u s.free true j = _
    by_cases e : j = s.free
    · rw [e, upd_same, if_pos (by omega)]
    · rw [upd_ne _ _ e, if_neg (by omega)]
  have tnd : ∀ j : Nat, t.nd j = if j = f.toNat then vn (i + 1) else s.nd j := fun j => by
    rw [et]
    show upd s.nd s.free _ j = _
    by_cases e : j = s.free
    · rw [e, upd_same, if_pos (by omega)]; rfl
    · rw [upd_ne _ _ e, if_neg (by omega)]
  have tw : t.wt = [] := by rw [et]; exact h.wt
  have hrr := h.cp.root
  obtain ⟨u, e, hd, hp⟩ := h.cp.publish (f := f) (by omega) g2 ok tn teq tk
  have uu : u.u = t.u := by have := drop_u t root; rw [hd] at this; exact this
  have und : u.nd = t.nd := by have := drop_nd t root; rw [hd] at this; exact this
  have hri := h.ri
  by_cases hin : root = 0 ∨ root ∈ rd
  · -- nobody waits
    have uw : u.wt = [] := by
      rcases hin with rfl | hin
      · rw [drop_zero] at hd; injection hd with hd _; rw [← hd]; exact tw
      · by_cases r0 : root = 0
        · rw [r0, drop_zero] at hd; injection hd with hd _; rw [← hd]; exact tw
        · have hc := teq root.toNat (by omega) (by omega)
          rw [if_pos (show root = ((root.toNat : Nat) : Int) by omega), if_neg (show ¬ f = ((root.toNat : Nat) : Int) by omega), show ((root.toNat : Nat) : Int) = root by omega] at hc
          have h1 : 1 ≤ rd.count root := List.count_pos_iff.2 hin
          rw [drop_had (by omega) (by rw [tn]; omega) (by omega)] at hd
          injection hd with hd _
          rw [← hd]
          exact drop_stays tw (by omega)
    refine ⟨t, f, u, e, u, 0, hm, ok, hd, hp.ok, work_none uw 5, ⟨hp, uw, fun j j1 j2 => ?_, fun _ => ?_, fun x hx => ?_, h.rl, ⟨fun e => by omega, fun e => by omega⟩⟩, g3, by omega⟩
    · rw [uu, tu]
      have hus := h.us j j1 j2
      by_cases ej : j = f.toNat
      · rw [if_pos ej]; exact ⟨fun _ => .inl (by omega), fun _ => rfl⟩
      · rw [if_neg ej, hus]
        refine ⟨fun a => ?_, fun a => ?_⟩
        · rcases a with a | a
          · rcases hin with b | b
            · omega
            · right; rw [a]; exact b
          · exact .inr a
        · rcases a with a | a
          · omega
          · exact .inr a
    · rw [und, tnd, if_pos rfl]
    · rw [und, tnd, if_neg (fun e => by have := h.cp.rng x hx; have : x = f := by omega
                                        subst this; exact g3 hx)]
      exact h.ndp x hx
  · have r0 : root ≠ 0 := fun e => hin (.inl e)
    have rin : root ∉ rd := fun e => hin (.inr e)
    have hc := teq root.toNat (by omega) (by omega)
    rw [if_pos (show root = ((root.toNat : Nat) : Int) by omega), if_neg (show ¬ f = ((root.toNat : Nat) : Int) by omega), show ((root.toNat : Nat) : Int) = root by omega, List.count_eq_zero.2 rin] at hc
    rw [drop_had (by omega) (by rw [tn]; omega) (by omega)] at hd
    injection hd with hd he
    have uw : u.wt = [root] := by rw [← hd]; exact drop_waits tw (by omega)
    have hwk := work_one uw (by rw [und]; exact tk _) 4
    have hpw := hp.work 5
    rw [hwk] at hpw
    refine ⟨t, f, u, e, u.pop root [], 1, hm, ok, by rw [drop_had (by omega) (by rw [tn]; omega) (by omega), hd, he], hp.ok, hwk, ⟨hpw, rfl, fun j j1 j2 => ?_, fun _ => ?_, fun x hx => ?_, h.rl, ⟨fun e => by omega, fun e => by omega⟩⟩, g3, by omega⟩
    · show upd u.u root.toNat false j = true ↔ _
      have hus := h.us j j1 j2
      by_cases er : j = root.toNat
      · rw [er, upd_same]
        refine ⟨fun a => (by cases a), fun a => ?_⟩
        rcases a with a | a
        · omega
        · rw [show ((root.toNat : Nat) : Int) = root by omega] at a; exact absurd a rin
      · rw [upd_ne _ _ er, uu, tu]
        by_cases ej : j = f.toNat
        · rw [if_pos ej]; exact ⟨fun _ => .inl (by omega), fun _ => rfl⟩
        · rw [if_neg ej, hus]
          refine ⟨fun a => ?_, fun a => ?_⟩
          · rcases a with a | a
            · omega
            · exact .inr a
          · rcases a with a | a
            · omega
            · exact .inr a
    · show upd u.nd root.toNat Nd.zero f.toNat = _
      rw [upd_ne _ _ (by omega), und, tnd, if_pos rfl]
    · show upd u.nd root.toNat Nd.zero x.toNat = _
      have hx1 := h.cp.rng x hx
      rw [upd_ne _ _ (fun e => by have : x = root := by omega
                                  subst this; exact rin hx), und, tnd, if_neg (fun e => by have : x = f := by omega
                                                                                           subst this; exact g3 hx)]
      exact h.ndp x hx
theorem busy_one {s : Ar} {B r : Int} {n : Nat} (ok : s.Ok B) (hn : s.n = n) (h1 : 1 ≤ r) (h2 : r ≤ n) (hu : ∀ j : Nat, 1 ≤ j → j ≤ n → (s.u j = true ↔ (j : Int) = r)) : s.busy = 1 := by
  have e1 : usedN n s.u = usedN n (upd (fun _ => false) r.toNat true) := usedN_congr fun j j1 j2 => by
    by_cases e : j = r.toNat
    · rw [e, upd_same]; exact (hu r.toNat (by omega) (by omega)).2 (by omega)
    · rw [upd_ne _ _ e]
      cases hj : s.u j
      · rfl
      · have := (hu j j1 j2).1 hj; omega
  have e2 := usedN_set (n := n) (u := fun _ => false) (h := r.toNat) (by omega) (by omega) rfl
  have e3 : usedN n (fun _ => false) = 0 := usedN_zero fun _ _ _ => rfl
  have := ok.busy
  rw [hn, e1, e2, e3] at this
  simpa using this
/-- At the end: what was kept is told; dropped and freed there is one node. -/
theorem KP.fin (h : KP s i k root rd B) (h0 : root ≠ 0) {x : Int} (hx : (x = 0 ∧ rd = []) ∨ (rd = [x] ∧ x ≠ root)) : ∃ t e v m, s.drop x = (t, e) ∧ t.Ok B ∧ t.work 50 = (v, m) ∧ v.busy = 1 ∧ v.Ok B := by
  have hr := h.cp.root
  rcases hx with ⟨rfl, rfl⟩ | ⟨rfl, hne⟩
  · rw [drop_zero]
    refine ⟨s, 9, s, 0, rfl, h.cp.ok, work_none h.wt 50, ?_, h.cp.ok⟩
    exact busy_one (n := 30) (r := root) h.cp.ok h.cp.n (by omega) (by omega) fun j j1 j2 => by have := h.us j j1 j2; simpa using this
  · have hx1 := h.cp.rng x (by simp)
    have hc := h.cp.eq x.toNat (by omega) (by omega)
    rw [if_neg (show ¬ root = ((x.toNat : Nat) : Int) by omega), show ((x.toNat : Nat) : Int) = x by omega] at hc
    simp at hc
    have hd := drop_had (t := s) (x := x) (by omega) (by rw [h.cp.n]; omega) (by omega)
    have ok := ok_drop h.cp.ok x
    rw [hd] at ok
    have uw := drop_waits (x := x) h.wt (by omega)
    have hk : ((s.drop1 x).nd x.toNat).kids = [0, 0, 0, 0] := h.cp.kz _
    have hwk := work_one uw hk 49
    have okw := ok_work 50 ok
    rw [hwk] at okw
    refine ⟨_, 0, _, 1, hd, ok, hwk, ?_, okw⟩
    refine busy_one (n := 30) (r := root) okw h.cp.n (by omega) (by omega) fun j j1 j2 => ?_
    show upd s.u x.toNat false j = true ↔ _
    have hus := h.us j j1 j2
    simp only [List.mem_singleton] at hus
    by_cases e : j = x.toNat
    · rw [e, upd_same]; exact ⟨fun a => (by cases a), fun a => by omega⟩
    · rw [upd_ne _ _ e, hus]
      exact ⟨fun a => by rcases a with a | a; exact a; omega, fun a => .inl a⟩
theorem KP.get (h : KP s i k root rd B) {x : Int} (hx : x ∈ rd) : s.get x = (vn k, true) := by
  have hx1 := h.cp.rng x hx
  unfold Ar.get
  rw [if_neg]
  · rw [h.ndp x hx]
  · rw [h.cp.n]
    have := (h.us x.toNat (by omega) (by omega)).2 (.inr (by rwa [show ((x.toNat : Nat) : Int) = x by omega]))
    simp [this]
    omega
end
end Go.Proofs.Ytjndhjmbdhfclaa
