/- Rows of bits in an arena: each way comes to an end, with the row that is told, or for want of room with none. -/
import Derived.Test.YtjfeocoengheaaaBr
namespace Go.Proofs.Ytjfeocoengheaaa
set_option maxRecDepth 100000

/-- The arena holds the row at a handle. -/
def BRep (s : Ar) : Int → BT → Prop
  | h, .nil => h = 0
  | h, .leaf l => 1 ≤ h ∧ h ≤ s.n ∧ s.u h.toNat = true ∧ s.nd h.toNat = leafN l ∧ l.length ≤ 64
  | h, .fork a b => 1 ≤ h ∧ h ≤ s.n ∧ s.u h.toNat = true ∧ ∃ k0 k1, s.nd h.toNat = forkN k0 k1 (a.len + b.len) (a.ones + b.ones) ∧ BRep s k0 a ∧ BRep s k1 b
theorem BRep.ext {s t : Ar} (e : Ext s t) : ∀ {x : BT} {h : Int}, BRep s h x → BRep t h x
  | .nil, _, r => r
  | .leaf l, h, ⟨r1, r2, r3, r4, r5⟩ => ⟨r1, by rw [e.n]; exact r2, e.u _ r3, (e.nd _ r3).trans r4, r5⟩
  | .fork l r, h, ⟨r1, r2, r3, k0, k1, r4, r5, r6⟩ => ⟨r1, by rw [e.n]; exact r2, e.u _ r3, k0, k1, (e.nd _ r3).trans r4, BRep.ext e r5, BRep.ext e r6⟩
theorem BRep.range {s : Ar} {h : Int} {t : BT} (r : BRep s h t) : 0 ≤ h ∧ h ≤ s.n := by
  cases t with
  | nil => have : h = 0 := r; omega
  | leaf l => have := r.1; have := r.2.1; omega
  | fork l r' => have := r.1; have := r.2.1; omega
theorem BRep.pos {s : Ar} {h : Int} {t : BT} (r : BRep s h t) (e : t.isNil = false) : 1 ≤ h := by
  cases t with
  | nil => cases e
  | leaf l => exact r.1
  | fork l r' => exact r.1
/-- A handle that is had, or a kid of a used node: it stays live. -/
def BFirm (s : Ar) (L : List Int) (h : Int) : Prop := h ∈ L ∨ ∃ u : Nat, 1 ≤ u ∧ u ≤ s.n ∧ s.u u = true ∧ h ∈ (s.nd u).kids
theorem BFirm.ext {s s' : Ar} {L L' : List Int} {h : Int} (f : BFirm s L h) (E : Ext s s') (hL : ∀ x, x ∈ L → x ∈ L') : BFirm s' L' h := by
  rcases f with f | ⟨u, u1, u2, u3, u4⟩
  · exact .inl (hL _ f)
  · exact .inr ⟨u, u1, by rw [E.n]; exact u2, E.u _ u3, by rw [E.nd _ u3]; exact u4⟩
section
variable {s s' s1 s2 s3 : Ar} {L : List Int} {h x y e : Int}
theorem BFirm.live {t : BT} (f : BFirm s L h) (g : Gd s L) (r : BRep s h t) (h1 : 1 ≤ h) : 0 < s.count h := by
  have hr := r.range
  refine g.pos ?_
  rcases f with f | ⟨u, u1, u2, u3, u4⟩
  · exact g.live h1 hr.2 f
  · exact (g.kid (h := u) (by omega) (by omega) u3 u4 h1).2
theorem get_used (h1 : 1 ≤ h) (h2 : h ≤ s.n) (hu : s.u h.toNat = true) : s.get h = (s.nd h.toNat, true) := by
  unfold Ar.get
  rw [if_neg (by rw [hu]; simp; omega)]
theorem vw_nil (s : Ar) : Vw s 0 .none := by
  left
  unfold Ar.get
  rw [if_pos (Or.inl (by decide))]
theorem vw_leaf {l : List Bool} (r : BRep s h (.leaf l)) (hc : 0 < s.count h) : Vw s h (.leaf l) := by
  obtain ⟨r1, r2, r3, r4, r5⟩ := r
  exact ⟨by rw [get_used r1 r2 r3, r4]; rfl, hc, r5⟩
theorem vw_fork {a b : BT} (r : BRep s h (.fork a b)) (hc : 0 < s.count h) (hl : a.len + b.len ≤ 1000000) :
    ∃ k0 k1, Vw s h (.fork k0 k1 (a.len + b.len) (a.ones + b.ones)) ∧ BRep s k0 a ∧ BRep s k1 b ∧ BFirm s L k0 ∧ BFirm s L k1 := by
  obtain ⟨r1, r2, r3, k0, k1, r4, r5, r6⟩ := r
  have := a.ones_le
  have := b.ones_le
  have hk : (s.nd h.toNat).kids = [k0, k1, 0, 0] := by rw [r4]; rfl
  exact ⟨k0, k1, ⟨by rw [get_used r1 r2 r3, r4]; rfl, hc, hl, by omega⟩, r5, r6, .inr ⟨h.toNat, by omega, by omega, r3, by rw [hk]; simp⟩, .inr ⟨h.toNat, by omega, by omega, r3, by rw [hk]; simp⟩⟩
/-- What is seen of a row. -/
theorem vw_any {t : BT} (r : BRep s h t) (g : Gd s L) (f : BFirm s L h) (hl : t.len ≤ 1000000) : ∃ v, Vw s h v ∧ v.len = t.len ∧ v.ones = t.ones ∧ v.small = t.small := by
  cases t with
  | nil => obtain rfl : h = 0 := r; exact ⟨.none, vw_nil s, rfl, rfl, rfl⟩
  | leaf l => exact ⟨.leaf l, vw_leaf r (f.live g r r.1), rfl, rfl, rfl⟩
  | fork a b =>
    obtain ⟨k0, k1, v, _⟩ := vw_fork (L := L) r (f.live g r r.1) hl
    exact ⟨_, v, rfl, rfl, rfl⟩
theorem high_ex (g : Gd s L) : ∀ (t : BT) (h : Int), BRep s h t → BFirm s L h → t.len ≤ 1000000 → t.high ≤ 1000 → High s h t.high
  | .nil, h, r, _, _, _ => by obtain rfl : h = 0 := r; exact .none (vw_nil s)
  | .leaf l, h, r, f, _, _ => .leaf (vw_leaf r (f.live g r r.1))
  | .fork a b, h, r, f, hl, hh => by
    have el : (BT.fork a b).len = a.len + b.len := rfl
    have eh : (BT.fork a b).high = 1 + max a.high b.high := rfl
    rw [el] at hl
    rw [eh] at hh ⊢
    obtain ⟨k0, k1, v, r0, r1, f0, f1⟩ := vw_fork (L := L) r (f.live g r r.1) hl
    exact .fork v (high_ex g a k0 r0 f0 (by omega) (by omega)) (high_ex g b k1 r1 f1 (by omega) (by omega)) (by omega) (by omega)
/-- A handle that was made, if nothing went wrong; if something did, nothing is told of it but that it is a row's, or none. -/
def BHd (s : Ar) (e h : Int) (t : BT) : Prop := (e = 0 → BRep s h t) ∧ ∃ t', BRep s h t' ∧ t'.len ≤ 500000
theorem BHd.ext {t : BT} (d : BHd s e h t) (E : Ext s s') : BHd s' e h t := ⟨fun a => (d.1 a).ext E, by obtain ⟨t', a, b⟩ := d.2; exact ⟨t', a.ext E, b⟩⟩
theorem BHd.err {t : BT} {e' : Int} (d : BHd s e h t) (he : e ≠ 0 → e' ≠ 0) : BHd s e' h t := ⟨fun a => by by_cases e0 : e = 0; exact d.1 e0; exact absurd a (he e0), d.2⟩
theorem BHd.range {t : BT} (d : BHd s e h t) : 0 ≤ h ∧ h ≤ s.n := by obtain ⟨t', a, _⟩ := d.2; exact a.range
theorem BRep.hd {t : BT} (r : BRep s h t) (e : Int) (hl : t.len ≤ 500000) : BHd s e h t := ⟨fun _ => r, t, r, hl⟩
/-- What a way comes to. -/
structure BRes (s : Ar) (L : List Int) (e : Int) (t : BT) (m : Nat) (s' : Ar) (e' r : Int) : Prop where
  went : Went s s' m
  eok : EOk s' e'
  gd : Gd s' (r :: L)
  hd : BHd s' e' r t
  zero : e' ≠ 0 → r = 0
  stuck : e ≠ 0 → e' ≠ 0
theorem BRes.md {t : BT} {m : Nat} {e' r : Int} (b : BRes s L e t m s' e' r) : s'.made - s'.busy = s.made - s.busy := b.went.md
theorem BRes.from {t : BT} {m n : Nat} {e0 e' r : Int} (b : BRes s L e t m s' e' r) (k : Went s1 s n) (hs : e0 ≠ 0 → e ≠ 0) : BRes s1 L e0 t (n + m) s' e' r := ⟨k.trans b.went, b.eok, b.gd, b.hd, b.zero, fun a => b.stuck (hs a)⟩
theorem BRes.mono {t : BT} {m n : Nat} {e' r : Int} (b : BRes s L e t m s' e' r) (h : m ≤ n) : BRes s L e t n s' e' r := ⟨b.went.mono h, b.eok, b.gd, b.hd, b.zero, b.stuck⟩

theorem leafs_ex {l : List Bool} (g : Gd s L) (he : EOk s e) (hm : s.made - s.busy ≤ 1000000000) (hL : L.length ≤ 900000) (hl : l.length ≤ 64) :
    ∃ s' e' r, Leafs s e l s' e' r ∧ BRes s L e (.leaf l) 1 s' e' r := by
  obtain ⟨s', e', r, e1, w, o, g1, z, st, u⟩ := node_ex (x := leafN l) (L := L) (g.zero.zero.zero.zero) he (by show 1 ≤ (1 : Int) ∧ (1 : Int) ≤ 6; omega) (fun y hy => by
    left
    have : y ∈ [(0 : Int), 0, 0, 0] := hy
    simpa using this)
  refine ⟨s', e', r, ⟨hl, g.snd (by omega) hm, e1⟩, w, o, g1, ⟨fun a => ?_, ?_⟩, z, st⟩
  · obtain ⟨u1, u2, u3, u4, _⟩ := u a
    exact ⟨u1, u2, u3, u4, hl⟩
  · by_cases a : e' = 0
    · obtain ⟨u1, u2, u3, u4, _⟩ := u a
      exact ⟨.leaf l, ⟨u1, u2, u3, u4, hl⟩, by show l.length ≤ _; omega⟩
    · exact ⟨.nil, z a, by show 0 ≤ _; omega⟩
theorem pair_ex {tx ty : BT} (g : Gd s (x :: y :: L)) (he : EOk s e) (hm : s.made - s.busy ≤ 1000000000) (hL : L.length ≤ 900000) (hx : BHd s e x tx) (hy : BHd s e y ty) (hl : tx.len + ty.len ≤ 500000) :
    ∃ s' e' r, Pair s e x y s' e' r ∧ BRes s L e (.fork tx ty) 1 s' e' r := by
  have rx := hx.range
  have ry := hy.range
  have key : ∃ vx vy, Vw s x vx ∧ Vw s y vy ∧ (e = 0 → vx.len = tx.len ∧ vx.ones = tx.ones ∧ vy.len = ty.len ∧ vy.ones = ty.ones) := by
    by_cases e0 : e = 0
    · obtain ⟨vx, v1, v2, v3, _⟩ := vw_any (hx.1 e0) g (.inl (by simp)) (by omega)
      obtain ⟨vy, v4, v5, v6, _⟩ := vw_any (hy.1 e0) g (.inl (by simp)) (by omega)
      exact ⟨vx, vy, v1, v4, fun _ => ⟨v2, v3, v5, v6⟩⟩
    · obtain ⟨t1, a1, b1⟩ := hx.2
      obtain ⟨t2, a2, b2⟩ := hy.2
      obtain ⟨vx, v1, v2, v3, _⟩ := vw_any a1 g (.inl (by simp)) (by omega)
      obtain ⟨vy, v4, v5, v6, _⟩ := vw_any a2 g (.inl (by simp)) (by omega)
      exact ⟨vx, vy, v1, v4, fun a => absurd a e0⟩
  obtain ⟨vx, vy, v1, v2, v3⟩ := key
  obtain ⟨s', e', r, e1, w, o, g1, z, st, u⟩ := node_ex (x := forkN x y (vx.len + vy.len) (vx.ones + vy.ones)) (L := L) ((g.perm (L' := [x, y, 0, 0] ++ L) fun k hk => by
      show cnt (x :: y :: 0 :: 0 :: L) k = _
      simp only [cnt_cons, if_neg (show ¬ (0 : Int) = (k : Int) by omega)]
      omega)) he (by show 1 ≤ (2 : Int) ∧ (2 : Int) ≤ 6; omega) (fun z hz => by
    have hz : z ∈ [x, y, 0, 0] := hz
    simp only [List.mem_cons, List.not_mem_nil, or_false] at hz
    omega)
  refine ⟨s', e', r, ⟨⟨vx, vy, v1, v2, e1⟩, g.snd (by simp; omega) hm⟩, w, o, g1, ⟨fun a => ?_, ?_⟩, z, st⟩
  · have e0 : e = 0 := Classical.byContradiction fun h => st h a
    obtain ⟨u1, u2, u3, u4, _⟩ := u a
    obtain ⟨c1, c2, c3, c4⟩ := v3 e0
    rw [c1, c2, c3, c4] at u4
    exact ⟨u1, u2, u3, x, y, u4, (hx.1 e0).ext w.ext, (hy.1 e0).ext w.ext⟩
  · by_cases a : e' = 0
    · have e0 : e = 0 := Classical.byContradiction fun h => st h a
      obtain ⟨u1, u2, u3, u4, _⟩ := u a
      obtain ⟨c1, c2, c3, c4⟩ := v3 e0
      rw [c1, c2, c3, c4] at u4
      exact ⟨.fork tx ty, ⟨u1, u2, u3, x, y, u4, (hx.1 e0).ext w.ext, (hy.1 e0).ext w.ext⟩, hl⟩
    · exact ⟨.nil, z a, by show 0 ≤ _; omega⟩
theorem err_res {tx ty t : BT} (g : Gd s (x :: y :: L)) (he : EOk s e) (e0 : e ≠ 0) (hx : BHd s e x tx) (hy : BHd s e y ty) : BRes s L e t 1 (s.drops [x, y]) e 0 := by
  have g2 := gd_drops [x, y] g fun z hz => by
    simp only [List.mem_cons, List.not_mem_nil, or_false] at hz
    rcases hz with rfl | rfl
    · exact hx.range
    · exact hy.range
  exact ⟨(went_drops _ _).mono (by omega), he.same (drops_busy _ _) (drops_n _ _), g2.zero, ⟨fun a => absurd a e0, .nil, rfl, by show 0 ≤ _; omega⟩, fun _ => rfl, fun a => a⟩
theorem pairOr_ex {tx ty : BT} (g : Gd s (x :: y :: L)) (he : EOk s e) (hm : s.made - s.busy ≤ 1000000000) (hL : L.length ≤ 900000) (hx : BHd s e x tx) (hy : BHd s e y ty) (hl : tx.len + ty.len ≤ 500000) :
    ∃ s' e' r, PairOr s e x y s' e' r ∧ BRes s L e (.fork tx ty) 1 s' e' r := by
  by_cases e0 : e = 0
  · obtain ⟨s', e', r, a, b⟩ := pair_ex g he hm hL hx hy hl
    exact ⟨s', e', r, .pair e0 a, b⟩
  · exact ⟨_, _, _, .err e0 (g.snd (by simp; omega) hm), err_res g he e0 hx hy⟩
theorem open_ex {tx ty : BT} (g : Gd s (h :: L)) (hm : s.made - s.busy ≤ 1000000000) (hL : L.length ≤ 900000) (r : BRep s h (.fork tx ty)) (nx : tx.isNil = false) (ny : ty.isNil = false) (hl : tx.len + ty.len ≤ 500000) :
    ∃ s' k0 k1, Open s h s' k0 k1 ∧ Gd s' (k0 :: k1 :: L) ∧ Went s s' 0 ∧ BRep s' k0 tx ∧ BRep s' k1 ty ∧ s'.busy = s.busy ∧ s'.n = s.n := by
  have h1 := r.1
  have h2 := r.2.1
  have f : BFirm s (h :: L) h := .inl (by simp)
  obtain ⟨k0, k1, v, r0, r1, f0, f1⟩ := vw_fork (L := h :: L) r (f.live g r h1) (by omega)
  have c0 := f0.live g r0 (r0.pos nx)
  have g1 := gd_keep g (i := k0) (by omega)
  have E1 := ext_keep s k0
  have f1' := f1.ext E1 (L' := k0 :: h :: L) fun z hz => List.mem_cons_of_mem _ hz
  have c1 := f1'.live g1 (r1.ext E1) (r1.pos ny)
  have g2 := gd_keep g1 (i := k1) (by omega)
  have E2 := ext_keep (s.keep k0).1 k1
  have g3 : Gd (((s.keep k0).1.keep k1).1.drop h).1 (k0 :: k1 :: L) := gd_drop (i := h) (g2.perm fun k _ => by simp only [cnt_cons]; omega) (by omega) (by rw [E2.n, E1.n]; exact h2)
  have w : Went s (((s.keep k0).1.keep k1).1.drop h).1 (0 + 0 + 0) := ((went_keep s k0).trans (went_keep _ k1)).trans (went_drop _ h)
  exact ⟨_, k0, k1, ⟨⟨_, _, v⟩, g.snd (by simp; omega) hm, rfl⟩, g3, w, r0.ext w.ext, r1.ext w.ext, by rw [drop_busy, keep_busy', keep_busy'], w.ext.n⟩
end
end Go.Proofs.Ytjfeocoengheaaa
