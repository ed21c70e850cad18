/- An arena whose counts are told, whatever it went through: what is kept, dropped, made, or not made for want of room. -/
import Derived.Test.YtcdmebjggdhhdaaTree
import Derived.Test.YtcdmebjggdhhdaaAcc2
namespace Go.Proofs.Ytcdmebjggdhhdaa

/-- L is what the caller has, each as often as it has it; who has no count waits. -/
structure Gd (s : Ar) (L : List Int) : Prop where
  good : ∃ B, Good s B L
  led : Led s
/-- An arena whose counts are all small. -/
def Snd (s : Ar) : Prop := s.Ok 100000000000

theorem sumN_le_mul {n : Nat} {f : Nat → Nat} {m : Nat} (h : ∀ i, f i ≤ m) : sumN n f ≤ m * n := by
  induction n with
  | zero => simp [sumN]
  | succ n ih => have := h (n + 1); unfold sumN; rw [Nat.mul_add]; omega
theorem refs_le (s : Ar) (k : Nat) : refs s k ≤ 4 * s.n := sumN_le_mul fun i => by
  unfold ctr
  split
  · exact List.count_le_length
  · omega
section
variable {s : Ar} {L : List Int} {B : Int}
theorem Gd.ok (g : Gd s L) : ∃ B, s.Ok B := by obtain ⟨B, h⟩ := g.good; exact ⟨B, h.ok⟩
theorem Gd.acc (g : Gd s L) : Acc s (cnt L) := by obtain ⟨B, h⟩ := g.good; exact h.acc
theorem Gd.n1 (g : Gd s L) : 1 ≤ s.n := by obtain ⟨B, h⟩ := g.ok; exact h.n1
theorem Gd.n2 (g : Gd s L) : s.n ≤ 6000 := by obtain ⟨B, h⟩ := g.ok; exact h.n2
theorem Gd.busy_le (g : Gd s L) : 0 ≤ s.busy ∧ s.busy ≤ s.n := by
  obtain ⟨B, h⟩ := g.ok
  have := h.busy
  have := usedN_le s.n s.u
  omega
/-- The counts are small because what is had, and the nodes, are few. -/
theorem Gd.okb (g : Gd s L) {M : Int} (hL : (L.length : Int) + 24000 ≤ M) (hm : s.made ≤ M) : s.Ok M := by
  obtain ⟨B, h⟩ := g.ok
  refine ⟨h.n1, h.n2, fun i => ⟨(h.c i).1, ?_⟩, h.wt, h.nodup, h.fr, h.busy, ⟨h.m.1, hm⟩⟩
  have hn := h.n2
  cases hu : s.u i
  · rw [h.fr i hu]; omega
  · obtain ⟨i1, i2⟩ := g.acc.nz i hu
    have e := g.acc.eq i i1 i2
    have h1 := refs_le s i
    have h2 : cnt L i ≤ L.length := List.count_le_length
    omega
theorem Gd.snd (g : Gd s L) (hL : L.length ≤ 1000000) (hm : s.made - s.busy ≤ 1000000000) : Snd s := by
  have := g.busy_le
  have := g.n2
  exact g.okb (by omega) (by omega)
theorem Gd.goodb (g : Gd s L) (hL : L.length ≤ 1000000) (hm : s.made - s.busy ≤ 1000000000) : Good s 100000000000 L := ⟨g.snd hL hm, g.acc⟩
theorem Gd.perm {L' : List Int} (g : Gd s L) (e : ∀ k, 1 ≤ k → cnt L' k = cnt L k) : Gd s L' := by
  obtain ⟨⟨B, h⟩, l⟩ := g
  exact ⟨⟨B, h.perm e⟩, l⟩
theorem Gd.perm' {L' : List Int} (g : Gd s L) (e : L'.Perm L) : Gd s L' := g.perm fun _ _ => e.count_eq _
theorem Gd.unzero (g : Gd s (0 :: L)) : Gd s L := g.perm fun k hk => by rw [cnt_cons, if_neg (by omega)]; rfl
theorem Gd.zero (g : Gd s L) : Gd s (0 :: L) := g.perm fun k hk => by rw [cnt_cons, if_neg (by omega)]; rfl
theorem Gd.swap {x y : Int} (g : Gd s (x :: y :: L)) : Gd s (y :: x :: L) := g.perm fun k _ => by simp only [cnt_cons]; omega
theorem Gd.live (g : Gd s L) {h : Int} (h1 : 1 ≤ h) (h2 : h ≤ s.n) (hH : h ∈ L) : s.count h ≠ 0 := by
  obtain ⟨B, k⟩ := g.good
  exact k.live h1 h2 hH
theorem Gd.kid (g : Gd s L) {h k : Int} (h1 : 1 ≤ h) (h2 : h ≤ s.n) (hu : s.u h.toNat = true) (hk : k ∈ (s.nd h.toNat).kids) (k1 : 1 ≤ k) : k ≤ s.n ∧ s.count k ≠ 0 := by
  obtain ⟨B, j⟩ := g.good
  exact j.kid h1 h2 hu hk k1
theorem Gd.pos (g : Gd s L) {h : Int} (h0 : s.count h ≠ 0) : 0 < s.count h := by
  obtain ⟨B, k⟩ := g.ok
  obtain ⟨_, _, e⟩ := count_pos h0
  have := k.c h.toNat
  omega
theorem gd_new {n : Nat} (h1 : 1 ≤ n) (h2 : n ≤ 6000) : Gd (Ar.new n) [] := ⟨⟨0, good_new h1 h2⟩, led_new n⟩
theorem gd_keep (g : Gd s L) {i : Int} (hi : s.count i ≠ 0) : Gd (s.keep i).1 (i :: L) := by
  obtain ⟨⟨B, h⟩, l⟩ := g
  exact ⟨⟨B + 1, (good_keep h hi).2⟩, led_keep l h.ok i⟩
theorem gd_drop {i : Int} (g : Gd s (i :: L)) (i0 : 0 ≤ i) (i2 : i ≤ s.n) : Gd (s.drop i).1 L := by
  obtain ⟨⟨B, h⟩, l⟩ := g
  exact ⟨⟨B, good_drop h i0 i2⟩, led_drop l i⟩
theorem gd_drops : ∀ (l : List Int) {s : Ar}, Gd s (l ++ L) → (∀ y, y ∈ l → 0 ≤ y ∧ y ≤ s.n) → Gd (s.drops l) L
  | [], _, g, _ => g
  | k :: r, s, g, h => gd_drops r (s := (s.drop k).1) (gd_drop g (h k (by simp)).1 (h k (by simp)).2) fun y hy => by rw [drop_n]; exact h y (List.mem_cons_of_mem _ hy)
theorem gd_work (g : Gd s L) (m : Nat) : Gd (s.work m).1 L := by
  obtain ⟨⟨B, h⟩, l⟩ := g
  exact ⟨⟨B, good_work h m⟩, led_work m l h.ok⟩
theorem ext_drops : ∀ (l : List Int) (s : Ar), Ext s (s.drops l)
  | [], s => Ext.refl s
  | k :: r, s => (ext_drop s k).trans (ext_drops r (s.drop k).1)
theorem free_full (g : Gd s L) (h : s.free = 0) : s.busy = s.n := by
  obtain ⟨B, k⟩ := g.ok
  have := g.busy_le
  by_cases e : s.busy < s.n
  · exact absurd h (free_of_room k e)
  · omega
theorem keep_made (s : Ar) (i : Int) : (s.keep i).1.made = s.made := by
  unfold Ar.keep
  split <;> rfl
theorem keep_busy' (s : Ar) (i : Int) : (s.keep i).1.busy = s.busy := by
  unfold Ar.keep
  split <;> rfl
theorem keep_n (s : Ar) (i : Int) : (s.keep i).1.n = s.n := by
  unfold Ar.keep
  split <;> rfl
/-- A node is made, or there is no room. -/
theorem gd_make (g : Gd s L) {x : Nd} (ht : 1 ≤ x.tag ∧ x.tag ≤ 6) (hk : ∀ y, y ∈ x.kids → y = 0 ∨ s.count y ≠ 0) :
    (∃ h : Int, s.make x = (s.put h.toNat x, h, 0) ∧ Gd (s.put h.toNat x) (h :: L) ∧ Ext s (s.put h.toNat x) ∧ 1 ≤ h ∧ h ≤ s.n ∧ (s.put h.toNat x).u h.toNat = true ∧ (s.put h.toNat x).nd h.toNat = x ∧ (s.put h.toNat x).busy = s.busy + 1 ∧ (s.put h.toNat x).made = s.made + 1 ∧ s.u h.toNat = false) ∨
    (s.make x = (s, 0, 2) ∧ s.busy = s.n) := by
  obtain ⟨⟨B, k⟩, l⟩ := g
  have g : Gd s L := ⟨⟨B, k⟩, l⟩
  have hb : x.kids.any s.bad = false := by
    rw [List.any_eq_false]
    intro y hy hb
    obtain ⟨a, b⟩ := bad_iff.1 hb
    rcases hk y hy with e | e
    · exact a e
    · exact e b
  by_cases e : s.free = 0
  · right
    refine ⟨?_, free_full g e⟩
    unfold Ar.make
    rw [if_neg (by omega), if_neg (by rw [hb]; decide), if_pos e]
  · left
    have hr : s.busy < s.n := by
      have h1 := k.ok.busy
      obtain ⟨f1, f2⟩ := free_in e
      have h3 := usedN_set (n := s.n) (u := s.u) f1 f2 (free_unused e)
      have h4 := usedN_le s.n (upd s.u s.free true)
      omega
    obtain ⟨h, e1, e2, e3, e4, e5, e6, e7, e8⟩ := good_make k ht hk hr
    have eh : s.free = h := by
      have e9 : s.make x = (s.put s.free x, (s.free : Int), 0) := by
        unfold Ar.make
        rw [if_neg (by omega), if_neg (by rw [hb]; decide), if_neg e]
      rw [e9] at e1
      have := congrArg (fun z => z.2.1) e1
      have : (s.free : Int) = (h : Int) := this
      omega
    refine ⟨(h : Int), ?_, ?_, ?_, by omega, by omega, ?_, ?_, ?_, ?_, ?_⟩ <;> rw [Int.toNat_natCast]
    · exact e1
    · refine ⟨⟨_, e2⟩, ?_⟩
      have := led_put l k.ok k.acc hb e
      rwa [eh] at this
    · exact e3
    · exact e6
    · exact e7
    · exact e8
    · rfl
    · rw [← eh]; exact free_unused e
end
/-- A node is made of kids that are handed over; behind an error they are dropped alone. -/
def nodeF (s : Ar) (e : Int) (x : Nd) : Ar × Int × Int :=
  if e = 0 then ((s.make x).1.drops x.kids, (s.make x).2.2, (s.make x).2.1) else (s.drops x.kids, e, 0)
/-- No error; or there was no room. -/
def EOk (s : Ar) (e : Int) : Prop := e = 0 ∨ (e = 2 ∧ s.busy = s.n)
theorem EOk.same {s s' : Ar} {e : Int} (h : EOk s e) (hb : s'.busy = s.busy) (hn : s'.n = s.n) : EOk s' e := h.imp id fun ⟨a, b⟩ => ⟨a, by omega⟩
/-- What becomes of the arena. -/
structure Went (s s' : Ar) (m : Nat) : Prop where
  ext : Ext s s'
  made : ∃ k : Nat, k ≤ m ∧ s'.made = s.made + k ∧ s'.busy = s.busy + k
theorem Went.refl (s : Ar) : Went s s 0 := ⟨Ext.refl s, 0, Nat.le_refl _, by omega, by omega⟩
theorem Went.trans {a b c : Ar} {m n : Nat} (h : Went a b m) (k : Went b c n) : Went a c (m + n) := by
  obtain ⟨i, i1, i2, i3⟩ := h.made
  obtain ⟨j, j1, j2, j3⟩ := k.made
  exact ⟨h.ext.trans k.ext, i + j, by omega, by omega, by omega⟩
theorem Went.mono {a b : Ar} {m n : Nat} (h : Went a b m) (e : m ≤ n) : Went a b n := by
  obtain ⟨i, i1, i2, i3⟩ := h.made
  exact ⟨h.ext, i, by omega, i2, i3⟩
theorem Went.md {a b : Ar} {m : Nat} (h : Went a b m) : b.made - b.busy = a.made - a.busy := by
  obtain ⟨i, i1, i2, i3⟩ := h.made
  omega
theorem went_keep (s : Ar) (i : Int) : Went s (s.keep i).1 0 := ⟨ext_keep s i, 0, Nat.le_refl _, by rw [keep_made]; omega, by rw [keep_busy']; omega⟩
theorem went_drop (s : Ar) (i : Int) : Went s (s.drop i).1 0 := ⟨ext_drop s i, 0, Nat.le_refl _, by rw [drop_made]; omega, by rw [drop_busy]; omega⟩
theorem went_drops (l : List Int) (s : Ar) : Went s (s.drops l) 0 := ⟨ext_drops l s, 0, Nat.le_refl _, by rw [drops_made]; omega, by rw [drops_busy]; omega⟩
/-- What a node that is made of kids that are handed over comes to. -/
theorem node_ex {s : Ar} {e : Int} {L : List Int} {x : Nd} (g : Gd s (x.kids ++ L)) (he : EOk s e) (ht : 1 ≤ x.tag ∧ x.tag ≤ 6) (hk : ∀ y, y ∈ x.kids → y = 0 ∨ (1 ≤ y ∧ y ≤ s.n)) :
    ∃ s' e' r, nodeF s e x = (s', e', r) ∧ Went s s' 1 ∧ EOk s' e' ∧ Gd s' (r :: L) ∧ (e' ≠ 0 → r = 0) ∧ (e ≠ 0 → e' ≠ 0) ∧ (e' = 0 → 1 ≤ r ∧ r ≤ s'.n ∧ s'.u r.toNat = true ∧ s'.nd r.toNat = x ∧ s.u r.toNat = false) := by
  have hr : ∀ y, y ∈ x.kids → 0 ≤ y ∧ y ≤ s.n := fun y hy => by rcases hk y hy with h | h <;> omega
  unfold nodeF
  rcases he with rfl | ⟨rfl, hb⟩
  · rw [if_pos rfl]
    rcases gd_make g ht (fun y hy => by
      rcases hk y hy with h | h
      · exact .inl h
      · exact .inr (g.live h.1 h.2 (List.mem_append_left _ hy))) with ⟨h, e1, g1, x1, h1, h2, u1, n1, b1, m1, f1⟩ | ⟨e1, hb⟩
    · rw [e1]
      have g2 := gd_drops (L := h :: L) x.kids (s := s.put h.toNat x) (g1.perm' (List.perm_middle)) fun y hy => by rw [x1.n]; exact hr y hy
      have x2 := ext_drops x.kids (s.put h.toNat x)
      refine ⟨_, _, _, rfl, ⟨x1.trans x2, 1, Nat.le_refl _, by rw [drops_made, m1]; omega, by rw [drops_busy, b1]; omega⟩, .inl rfl, g2, fun a => absurd rfl a, fun a => absurd rfl a, fun _ => ⟨h1, ?_, ?_, ?_, f1⟩⟩
      · show h ≤ ((s.put h.toNat x).drops x.kids).n
        rw [drops_n, x1.n]; exact h2
      · show ((s.put h.toNat x).drops x.kids).u h.toNat = true
        rw [drops_u]; exact u1
      · show ((s.put h.toNat x).drops x.kids).nd h.toNat = x
        rw [drops_nd]; exact n1
    · rw [e1]
      have g2 := gd_drops x.kids g hr
      refine ⟨_, _, _, rfl, (went_drops x.kids s).mono (by omega), .inr ⟨rfl, ?_⟩, g2.zero, fun _ => rfl, fun a => absurd rfl a, fun a => by cases a⟩
      show (s.drops x.kids).busy = (s.drops x.kids).n
      rw [drops_busy, drops_n]; exact hb
  · rw [if_neg (by decide)]
    have g2 := gd_drops x.kids g hr
    refine ⟨_, _, _, rfl, (went_drops x.kids s).mono (by omega), .inr ⟨rfl, ?_⟩, g2.zero, fun _ => rfl, fun a => by decide, fun a => by cases a⟩
    rw [drops_busy, drops_n]; exact hb
end Go.Proofs.Ytcdmebjggdhhdaa
