/- A row that is built at once leaves none waiting; a row's nodes while others are freed; a row with one bit more has a node of its own. Plain. -/
import Derived.Test.YtdipgcbppggdhaaGpG
import Derived.Test.YtdipgcbppggdhaaGpF
import Derived.Test.YtdipgcbppggdhaaGpR
namespace Go.Proofs.Ytdipgcbppggdhaa
set_option maxRecDepth 100000

theorem drop_wt {s : Ar} {y : Int} (h : s.count y ≠ 1) : (s.drop y).1.wt = s.wt := by
  unfold Ar.drop
  by_cases c : s.count y = 0
  · rw [if_pos c]
  · rw [if_neg c]
    obtain ⟨_, _, e⟩ := count_pos c
    unfold Ar.drop1
    show (if s.c y.toNat - 1 = 0 then s.wt ++ [y] else s.wt) = s.wt
    rw [if_neg (by omega)]
theorem drops_wt : ∀ (l : List Int) {s : Ar} {L : List Int}, Gd s (l ++ L) → (∀ y, y ∈ l → y = 0 ∨ (1 ≤ y ∧ y ≤ s.n ∧ 1 ≤ refs s y.toNat)) → (s.drops l).wt = s.wt
  | [], _, _, _, _ => rfl
  | y :: r, s, L, g, h => by
    have hy := h y List.mem_cons_self
    have h1 : (s.drop y).1.wt = s.wt := by
      refine drop_wt fun e => ?_
      rcases hy with rfl | ⟨y1, y2, y3⟩
      · rw [count_zero'] at e; cases e
      · have he := g.acc.eq y.toNat (by omega) (by omega)
        have hc : s.count y = s.c y.toNat := if_neg (by omega)
        have hp : 1 ≤ cnt (y :: r ++ L) y.toNat := List.count_pos_iff.2 (by rw [show ((y.toNat : Nat) : Int) = y by omega]; simp)
        omega
    have g' := gd_drop (L := r ++ L) g (by rcases hy with rfl | hy <;> omega) (by have := g.n1; rcases hy with rfl | hy <;> omega)
    refine Eq.trans (drops_wt r g' fun z hz => ?_) h1
    rw [drop_n]
    rcases h z (List.mem_cons_of_mem _ hz) with a | ⟨a, b, c⟩
    · exact .inl a
    · exact .inr ⟨a, b, by rw [refs_congr (drop_n s y) (drop_u s y) (drop_nd s y)]; exact c⟩
theorem refs_pos {s : Ar} {h : Nat} {y : Int} (h1 : 1 ≤ h) (h2 : h ≤ s.n) (hu : s.u h = true) (hy : y ∈ (s.nd h).kids) (y1 : 1 ≤ y) : 1 ≤ refs s y.toNat := by
  refine Nat.le_trans ?_ (sumN_le (f := ctr s y.toNat) h1 h2)
  unfold ctr
  rw [if_pos hu]
  refine List.count_pos_iff.2 ?_
  rwa [show ((y.toNat : Nat) : Int) = y by omega]
/-- What is known of a node that is made of kids that are handed over. -/
structure NodeRes (s : Ar) (e : Int) (L : List Int) (s' : Ar) (e' r : Int) : Prop where
  gd : Gd s' (r :: L)
  eok : EOk s' e'
  stuck : e ≠ 0 → e' ≠ 0
  wt : e' = 0 → s'.wt = s.wt
  n : s'.n = s.n
  range : 0 ≤ r ∧ r ≤ s'.n
theorem node_res {s s' : Ar} {e e' r : Int} {L : List Int} {x : Nd} (hn : nodeF s e x = (s', e', r)) (g : Gd s (x.kids ++ L)) (he : EOk s e) (ht : 1 ≤ x.tag ∧ x.tag ≤ 6) (hk : ∀ y, y ∈ x.kids → y = 0 ∨ (1 ≤ y ∧ y ≤ s.n)) : NodeRes s e L s' e' r := by
  obtain ⟨s2, e2, r2, h1, w, o, g2, z, st, u⟩ := node_ex g he ht hk
  have h1' := h1
  have h0 := hn.symm.trans h1
  obtain ⟨i1, i0⟩ := Prod.mk.inj h0
  obtain ⟨i2, i3⟩ := Prod.mk.inj i0
  clear h0 i0 h1
  subst i1 i2 i3
  refine ⟨g2, o, st, fun e0 => ?_, w.ext.n, ?_⟩
  · subst e0
    have e0 : e = 0 := by
      by_cases c : e = 0
      · exact c
      · exact absurd rfl (st c)
    subst e0
    obtain ⟨u1, u2, u3, u4, u5⟩ := u rfl
    unfold nodeF at h1'
    rw [if_pos rfl] at h1'
    rcases gd_make g ht (fun y hy => by
      rcases hk y hy with h | h
      · exact .inl h
      · exact .inr (g.live h.1 h.2 (List.mem_append_left _ hy))) with ⟨h, e1, g1, x1, i1, i2, v1, n1, b1, m1, f1⟩ | ⟨e1, hb⟩
    · rw [e1] at h1'
      obtain ⟨h3, h4⟩ := Prod.mk.inj h1'
      have h3 : (s.put h.toNat x).drops x.kids = s' := h3
      rw [← h3]
      refine drops_wt x.kids (L := h :: L) (g1.perm' List.perm_middle) fun y hy => ?_
      rcases hk y hy with a | ⟨a, b⟩
      · exact .inl a
      · exact .inr ⟨a, by rw [x1.n]; exact b, refs_pos (h := h.toNat) (by omega) (by rw [x1.n]; omega) v1 (by rw [n1]; exact hy) a⟩
    · rw [e1] at h1'
      obtain ⟨_, h4⟩ := Prod.mk.inj h1'
      obtain ⟨h5, _⟩ := Prod.mk.inj h4
      cases h5
  · by_cases c : e' = 0
    · obtain ⟨u1, u2, _⟩ := u c
      omega
    · rw [z c]
      have := g2.n1
      omega
theorem leafs_res {s s' : Ar} {e e' r : Int} {L : List Int} {l : List Bool} (h : Leafs s e l s' e' r) (g : Gd s L) (he : EOk s e) : NodeRes s e L s' e' r :=
  node_res h.eq (L := L) (g.zero.zero.zero.zero) he (by show 1 ≤ (1 : Int) ∧ (1 : Int) ≤ 6; omega) (fun y hy => by
    left
    have : y ∈ [(0 : Int), 0, 0, 0] := hy
    simpa using this)
theorem pair_res {s s' : Ar} {e e' r x y : Int} {L : List Int} (h : Pair s e x y s' e' r) (g : Gd s (x :: y :: L)) (he : EOk s e) (hx : 0 ≤ x ∧ x ≤ s.n) (hy : 0 ≤ y ∧ y ≤ s.n) : NodeRes s e L s' e' r := by
  obtain ⟨vx, vy, _, _, hn⟩ := h.ex
  refine node_res hn (L := L) ?_ he (by show 1 ≤ (2 : Int) ∧ (2 : Int) ≤ 6; omega) (fun z hz => ?_)
  · refine g.perm fun k hk => ?_
    show cnt (x :: y :: 0 :: 0 :: L) k = _
    simp only [cnt_cons]
    rw [if_neg (show ¬ (0 : Int) = (k : Int) by omega)]
    omega
  · have : z ∈ [x, y, 0, 0] := hz
    have : z = x ∨ z = y ∨ z = 0 := by simpa using this
    rcases this with rfl | rfl | rfl <;> omega
theorem pairOr_res {s s' : Ar} {e e' r x y : Int} {L : List Int} (h : PairOr s e x y s' e' r) (g : Gd s (x :: y :: L)) (he : EOk s e) (hx : 0 ≤ x ∧ x ≤ s.n) (hy : 0 ≤ y ∧ y ≤ s.n) : NodeRes s e L s' e' r := by
  cases h with
  | err e0 sn =>
    have g2 := gd_drops [x, y] (L := L) g fun z hz => by
      have : z = x ∨ z = y := by simpa using hz
      rcases this with rfl | rfl <;> assumption
    refine ⟨g2.zero, he.imp id fun ⟨a, b⟩ => ⟨a, by rw [drops_busy, drops_n]; exact b⟩, fun a => a, fun a => absurd a e0, drops_n _ _, ?_⟩
    have := g2.n1
    omega
  | pair e0 hp =>
    exact pair_res hp g he hx hy
theorem build_res {s s' : Ar} {e e' r : Int} {l : List Bool} {k : Nat} (h : Build s e l k s' e' r) : ∀ {L : List Int}, Gd s L → EOk s e → NodeRes s e L s' e' r := by
  induction h with
  | leaf h => exact fun g he => leafs_res h g he
  | fork _ _ _ _ _ _ hp ih1 ih2 =>
    intro L g he
    have r1 := ih1 g he
    have r2 := ih2 r1.gd r1.eok
    have r3 := pairOr_res (L := L) hp r2.gd.swap r2.eok ⟨r1.range.1, by rw [r2.n]; exact r1.range.2⟩ r2.range
    refine ⟨r3.gd, r3.eok, fun a => r3.stuck (r2.stuck (r1.stuck a)), fun a => ?_, r3.n.trans (r2.n.trans r1.n), r3.range⟩
    have e2 := Classical.byContradiction fun c => r3.stuck c a
    have e1 := Classical.byContradiction fun c => r2.stuck c e2
    rw [r3.wt a, r2.wt e2, r1.wt e1]
/-- The number of bits that a node says. -/
def nlen (x : Nd) : Int := if x.tag = 1 then x.B else x.A
theorem rep_nlen {s : Ar} {t : BT} {h : Int} (r : BRep s h t) (h1 : 1 ≤ h) : nlen (s.nd h.toNat) = t.len := by
  cases t with
  | nil => have : h = 0 := r; omega
  | leaf l => obtain ⟨_, _, _, r4, _⟩ := r; rw [r4]; rfl
  | fork a b => obtain ⟨_, _, _, k0, k1, r4, _⟩ := r; rw [r4]; rfl
theorem nods_nlen {s : Ar} : ∀ {t : BT} {h x : Int}, BRep s h t → x ∈ nods s t h → nlen (s.nd x.toNat) ≤ t.len
  | .nil, _, _, _, hx => by cases hx
  | .leaf l, h, x, r, hx => by
    obtain rfl : x = h := List.mem_singleton.1 hx
    exact Int.le_of_eq (rep_nlen r r.1)
  | .fork a b, h, x, r, hx => by
    have r0 := r
    obtain ⟨r1, r2, r3, k0, k1, r4, r5, r6⟩ := r
    have e0 : (s.nd h.toNat).k0 = k0 := by rw [r4]; rfl
    have e1 : (s.nd h.toNat).k1 = k1 := by rw [r4]; rfl
    have hx : x ∈ h :: (nods s a (s.nd h.toNat).k0 ++ nods s b (s.nd h.toNat).k1) := hx
    rw [e0, e1] at hx
    rcases List.mem_cons.1 hx with rfl | hx
    · exact Int.le_of_eq (rep_nlen r0 r1)
    · show _ ≤ ((a.len + b.len : Nat) : Int)
      rcases List.mem_append.1 hx with hx | hx
      · have := nods_nlen r5 hx; omega
      · have := nods_nlen r6 hx; omega
theorem nods_congr {s s' : Ar} (hd : s'.nd = s.nd) : ∀ (t : BT) (h : Int), nods s' t h = nods s t h
  | .nil, _ => rfl
  | .leaf _, _ => rfl
  | .fork a b, h => by
    show h :: (nods s' a (s'.nd h.toNat).k0 ++ nods s' b (s'.nd h.toNat).k1) = h :: (nods s a (s.nd h.toNat).k0 ++ nods s b (s.nd h.toNat).k1)
    rw [hd, nods_congr hd a, nods_congr hd b]
theorem nods_pop {s : Ar} {L : List Int} (g : Gd s L) {i : Int} {r : List Int} (hw : s.wt = i :: r) : ∀ {t : BT} {h : Int}, BRep s h t → (1 ≤ h → s.count h ≠ 0) → nods (s.pop i r) t h = nods s t h
  | .nil, _, _, _ => rfl
  | .leaf _, _, _, _ => rfl
  | .fork a b, h, ⟨r1, r2, r3, k0, k1, r4, r5, r6⟩, hc => by
    obtain ⟨B, ok⟩ := g.ok
    obtain ⟨i1, i2, _, i4⟩ := ok.wt i (by rw [hw]; simp)
    have ne : h.toNat ≠ i.toNat := fun e => by
      have : s.count h = s.c h.toNat := if_neg (by omega)
      exact hc r1 (by rw [this, e, i4])
    have hk : (s.nd h.toNat).kids = [k0, k1, 0, 0] := by rw [r4]; rfl
    have hnd : (s.pop i r).nd h.toNat = s.nd h.toNat := upd_ne _ _ ne
    have e0 : (s.nd h.toNat).k0 = k0 := by rw [r4]; rfl
    have e1 : (s.nd h.toNat).k1 = k1 := by rw [r4]; rfl
    show h :: (nods (s.pop i r) a ((s.pop i r).nd h.toNat).k0 ++ nods (s.pop i r) b ((s.pop i r).nd h.toNat).k1) = h :: (nods s a (s.nd h.toNat).k0 ++ nods s b (s.nd h.toNat).k1)
    rw [hnd, e0, e1, nods_pop g hw r5 fun p => (g.kid r1 r2 r3 (k := k0) (by rw [hk]; simp) p).2, nods_pop g hw r6 fun p => (g.kid r1 r2 r3 (k := k1) (by rw [hk]; simp) p).2]
theorem nods_work {L : List Int} {t : BT} {h : Int} (hm : h = 0 ∨ h ∈ L) : ∀ (m : Nat) {s : Ar}, Gd s L → BRep s h t → nods (s.work m).1 t h = nods s t h
  | 0, _, _, _ => rfl
  | m + 1, s, g, r => by
    unfold Ar.work
    split
    · rfl
    · rename_i i rr hw
      have hc : 1 ≤ h → s.count h ≠ 0 := fun p => by
        rcases hm with rfl | hm
        · omega
        · exact g.live p r.range.2 hm
      have r' : BRep (s.free1 i rr) h t := by
        rw [free1_eq]
        exact brep_congr (drops_n _ _) (drops_u _ _) (drops_nd _ _) (brep_pop g hw r hc)
      refine (nods_work hm m (gd_free1 g hw) r').trans ?_
      rw [free1_eq]
      exact (nods_congr (drops_nd _ _) t h).trans (nods_pop g hw r hc)
/-- Where as many are used as before, the same are used. -/
theorem used_same {s s' : Ar} {L L' : List Int} (g : Gd s L) (g' : Gd s' L') (E : Ext s s') (hb : s'.busy = s.busy) {x : Int} (hx : x ∈ usedL s') : x ∈ usedL s := by
  have h1 := g.busy_is
  have h2 := g'.busy_is
  have sub : ∀ y, y ∈ usedL s → y ∈ usedL s' := fun y hy => by
    obtain ⟨a, b, c⟩ := usedL_mem.1 hy
    exact usedL_mem.2 ⟨a, by rw [E.n]; exact b, E.u _ c⟩
  refine Classical.byContradiction fun hn => ?_
  have := nodup_sub (a := x :: usedL s) (b := usedL s') (List.nodup_cons.2 ⟨hn, usedL_nodup s⟩) fun y hy => by
    rcases List.mem_cons.1 hy with rfl | hy
    · exact hx
    · exact sub y hy
  simp only [List.length_cons] at this
  omega
end Go.Proofs.Ytdipgcbppggdhaa
namespace Go.Proofs.Ytdipgcbppggdhaa
set_option maxRecDepth 100000
open Go.RowKit
section
variable {w w' : World} {K : Nat → Prop} {p : Nat} {s s' : Ar} {L L' : List Int} {h : Int} {xs : List Bool}
end
/-- What is told of a row, and of one that was made of it with a bit more. -/
theorem share_facts {s1 s2 : Ar} {q g : Int} {xs ys : List Bool} {c : Nat} (g1 : Gd s1 [q]) (r1 : Row s1 [q] q xs) (hw : s1.wt = []) (m1 : s1.made - s1.busy ≤ 1000000000) (W : Went s1 s2 c) (g2 : Gd s2 [g, q]) (r2 : Row s2 [g, q] g ys) (hys : ys.length = xs.length + 1) :
    ∃ (s3 s4 : Ar) (m W0 : Nat), s2.drop g = (s3, 0) ∧ s3.work 1073741824 = (s4, m) ∧ 1 ≤ m ∧ s4.busy = W0 ∧ W0 ≤ 6000 ∧ Snd s1 ∧ Snd s2 ∧ Snd s3 ∧
      (∀ zs, Asc zs → (∀ x, x ∈ zs ↔ Rch s1 [q] x) → zs.length = W0) ∧ (∀ zs, Asc zs → (∀ x, x ∈ zs ↔ Rch s2 [q] x) → zs.length = W0) ∧ (∀ zs, Asc zs → (∀ x, x ∈ zs ↔ Rch s2 [g, q] x) → zs.length ≤ W0 + c) := by
  obtain ⟨t, a, hq, _, rfl, _⟩ := r1
  obtain ⟨t2, b, _, _, rfl, _⟩ := r2
  have E := W.ext
  obtain ⟨k, k1, k2, k3⟩ := W.made
  have hg1 : 1 ≤ g := b.pos (by
    cases t2 with
    | nil => simp [BT.list] at hys
    | leaf _ => rfl
    | fork _ _ => rfl)
  have hgc : s2.count g ≠ 0 := g2.live hg1 b.range.2 List.mem_cons_self
  have hb1 := g1.busy_is
  have A : ∀ zs, Asc zs → (∀ x, x ∈ zs ↔ Rch s1 [q] x) → zs.length = (usedL s1).length := fun zs ha hz => by
    have := busy_reach g1 hw (R := [q]) (fun _ h => h) ha hz
    omega
  have a2 := a.ext E
  have row2 := fun x => (row_rch g2 a2 (hq.imp id fun h => List.mem_cons_of_mem _ h) x)
  have row1 := fun x => (row_rch g1 a hq x)
  have n12 := nods_ext E a
  have kpos : 1 ≤ k := by
    refine Classical.byContradiction fun hk => ?_
    have h1 := used_same g1 g2 E (by omega) (g2.used hgc)
    obtain ⟨u1, u2, u3⟩ := usedL_mem.1 h1
    have h2 := nods_nlen a ((row1 g).1 (used_reached g1 hw h1))
    have h3 := rep_nlen b hg1
    rw [E.nd _ u3] at h3
    have e1 := t.len_list
    have e2 := t2.len_list
    omega
  have hd : s2.drop g = ((s2.drop g).1, 0) := by
    unfold Ar.drop
    rw [if_neg hgc]
  have g3 : Gd (s2.drop g).1 [q] := gd_drop g2 (by omega) b.range.2
  have a3 := a2.ext (ext_drop s2 g)
  have n23 := nods_ext (ext_drop s2 g) a2
  have hb3 : (s2.drop g).1.busy = s2.busy := drop_busy s2 g
  have hm3 : (s2.drop g).1.made = s2.made := drop_made s2 g
  have bl3 := g3.busy_le
  have nn3 := g3.n2
  have wt4 := work_none 1073741824 (s2.drop g).1 g3 (by omega)
  have g4 := gd_work g3 1073741824
  have a4 := brep_work hq 1073741824 g3 a3
  have n34 := nods_work hq 1073741824 g3 a3
  have row4 := fun x => (row_rch g4 a4 hq x)
  have hasc := asc_sort (usedL_nodup s1)
  have mem1 : ∀ x, x ∈ ((usedL s1).mergeSort fun x y => decide (x ≤ y)) ↔ Rch s1 [q] x := fun x => (hasc.2 x).trans ⟨fun hx => used_reached g1 hw hx, fun hx => g1.used hx.live⟩
  have mem4 : ∀ x, x ∈ ((usedL s1).mergeSort fun x y => decide (x ≤ y)) ↔ Rch ((s2.drop g).1.work 1073741824).1 [q] x := fun x => by
    rw [mem1 x, row1 x, row4 x, n34, n23, n12]
  have hb4 := busy_reach g4 wt4 (R := [q]) (fun _ h => h) hasc.1 mem4
  have hl := A _ hasc.1 mem1
  have hwb := work_busy 1073741824 (s2.drop g).1
  refine ⟨(s2.drop g).1, ((s2.drop g).1.work 1073741824).1, ((s2.drop g).1.work 1073741824).2, (usedL s1).length, hd, rfl, by omega, by omega, ?_, g1.snd (by simp) (by omega), g2.snd (by simp) (by omega), g3.snd (by simp) (by omega), A, fun zs ha hz => ?_, fun zs ha hz => ?_⟩
  · have := g1.busy_le
    have := g1.n2
    omega
  · exact A zs ha fun x => by rw [hz x, row2 x, row1 x, n12]
  · have := reach_busy g2 ha hz
    omega
theorem ints_one (W : World) (h : Int) : Ints (W.alloc (.cells #[.int .i64 h] 3)) (.slice (some ⟨W.heap.size, 0, none⟩) 1 1) [h] :=
  .inr ⟨_, 0, _, rfl, by simp, Nat.le_refl _, fun j hj => by
    have hj : j < 1 := hj
    obtain rfl : j = 0 := by omega
    exact cell_new rfl rfl⟩
theorem ints_two (W : World) (g h : Int) : Ints (W.alloc (.cells #[.int .i64 g, .int .i64 h] 3)) (.slice (some ⟨W.heap.size, 0, none⟩) 2 2) [g, h] :=
  .inr ⟨_, 0, _, rfl, by simp, Nat.le_refl _, fun j hj => by
    have hj : j < 2 := hj
    have : j = 0 ∨ j = 1 := by omega
    rcases this with rfl | rfl <;> exact cell_new rfl rfl⟩
section
variable {w : World} {K : Nat → Prop} {p : Nat} {s : Ar} {R : List Int} {v : Value}
theorem reach_len {n : Nat} (ha : Ars w K p s) (hf : s.Fit) (hv : Ints w v R) (hl : R.length ≤ 100) (h : ∀ zs, Asc zs → (∀ x, x ∈ zs ↔ Rch s R x) → zs.length = n) :
    Calls Try.prog 25 #[.pointer (some ⟨p, 0, none⟩), v] w fun e w' => (∃ a c, e = .returned (.slice a n c)) ∧ Below w.heap.size w w' := by
  refine (reach_is ha hf hv (by omega)).mono ?_
  rintro e w' ⟨v', ys, Ko, rfl, hL, _, hasc, hm, hb⟩
  obtain ⟨a, c, rfl⟩ := hL.slice
  exact ⟨⟨a, c, by rw [h ys hasc hm]⟩, hb⟩
theorem reach_most {n : Nat} (ha : Ars w K p s) (hf : s.Fit) (hv : Ints w v R) (hl : R.length ≤ 100) (h : ∀ zs, Asc zs → (∀ x, x ∈ zs ↔ Rch s R x) → zs.length ≤ n) :
    Calls Try.prog 25 #[.pointer (some ⟨p, 0, none⟩), v] w fun e w' => (∃ a c m, m ≤ n ∧ e = .returned (.slice a m c)) ∧ Below w.heap.size w w' := by
  refine (reach_is ha hf hv (by omega)).mono ?_
  rintro e w' ⟨v', ys, Ko, rfl, hL, _, hasc, hm, hb⟩
  obtain ⟨a, c, rfl⟩ := hL.slice
  exact ⟨⟨a, c, _, h ys hasc hm, rfl⟩, hb⟩
end
end Go.Proofs.Ytdipgcbppggdhaa
