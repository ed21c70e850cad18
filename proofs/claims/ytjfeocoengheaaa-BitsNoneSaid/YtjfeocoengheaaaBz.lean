/- Rows of bits in an arena: a bit more, a bit less, a row that is built: each comes to an end. -/
import Derived.Test.YtjfeocoengheaaaBy
namespace Go.Proofs.Ytjfeocoengheaaa
set_option maxRecDepth 100000

section
variable {one : Bool}
theorem BT.Full.fine {t : BT} (h : t.Full) : t.Fine := .inr (.inr h)
theorem BT.Fine.fork {a b : BT} (h : (BT.fork a b).Fine) : (BT.fork a b).Full := by
  rcases h with h | ⟨l, h, _⟩ | h
  · cases h
  · cases h
  · exact h
theorem BT.Fine.leaf {l : List Bool} (h : (BT.leaf l).Fine) : 1 ≤ l.length ∧ l.length ≤ 64 := by
  rcases h with h | ⟨l', h, a, b⟩ | h
  · cases h
  · injection h with h; subst h; exact ⟨a, b⟩
  · have := h.1; have := h.2; omega
theorem two_leafs {s : Ar} {e : Int} {L : List Int} {a b : List Bool} (g : Gd s L) (he : EOk s e) (hm : s.made - s.busy ≤ 1000000000) (hL : L.length ≤ 800000) (ha : a.length ≤ 64) (hb : b.length ≤ 64) :
    ∃ s1 e1 x s2 e2 y s' e' r, Leafs s e a s1 e1 x ∧ Leafs s1 e1 b s2 e2 y ∧ PairOr s2 e2 x y s' e' r ∧ BRes s L e (.fork (.leaf a) (.leaf b)) 3 s' e' r := by
  obtain ⟨s1, e1, x, p1, d1⟩ := leafs_ex g he hm (by omega) ha
  have m1 := d1.md
  obtain ⟨s2, e2, y, p2, d2⟩ := leafs_ex (L := x :: L) d1.gd d1.eok (by omega) (by simp; omega) hb
  have m2 := d2.md
  obtain ⟨s3, e3, r, p3, d3⟩ := pairOr_ex (x := x) (y := y) (L := L) d2.gd.swap2 d2.eok (by omega) (by omega) ((d1.hd.ext d2.went.ext).err d2.stuck) d2.hd (by show a.length + b.length ≤ _; omega)
  exact ⟨s1, e1, x, s2, e2, y, s3, e3, r, p1, p2, p3, (d3.from d2.went d2.stuck).from d1.went d1.stuck⟩
theorem ins_ex : ∀ (t : BT) (i : Nat) (s : Ar) (L : List Int) (h : Int), Gd s L → s.made - s.busy ≤ 1000000000 → L.length + t.high ≤ 700000 → BRep s h t → BFirm s L h → t.Fine → i ≤ t.len → t.len ≤ 400000 → t.high ≤ 400 →
    ∃ s' e' r, Ins one s 0 h i s' e' r ∧ BRes s L 0 (binsert t i one) (3 * t.high + 1) s' e' r
  | .nil, i, s, L, h, g, hm, hL, r, f, _, hi, _, _ => by
    obtain rfl : h = 0 := r
    obtain ⟨s', e', r, p, d⟩ := leafs_ex (l := [one]) g (.inl rfl) hm (by omega) (by simp)
    exact ⟨s', e', r, .none (vw_nil s) p, d.mono (by omega)⟩
  | .leaf l, i, s, L, h, g, hm, hL, r, f, hf, hi, _, _ => by
    have v := vw_leaf r (f.live g r r.1)
    obtain ⟨l1, l2⟩ := hf.leaf
    have hi : i ≤ l.length := hi
    have hh : (BT.leaf l).high = 1 := rfl
    rw [hh]
    unfold binsert
    by_cases e : l.length < 64
    · rw [if_pos e]
      obtain ⟨s', e', r, p, d⟩ := leafs_ex (l := bIns l i one) g (.inl rfl) hm (by omega) (by rw [bIns_len hi]; omega)
      exact ⟨s', e', r, .leaf v hi e p, d.mono (by omega)⟩
    · rw [if_neg e]
      have t1 : (l.take 32).length = 32 := by rw [List.length_take]; omega
      have t2 : (l.drop 32).length = 32 := by rw [List.length_drop]; omega
      by_cases c : i ≤ 32
      · rw [if_pos c]
        obtain ⟨s1, e1, x, s2, e2, y, s', e', r, p1, p2, p3, d⟩ := two_leafs (a := bIns (l.take 32) i one) (b := l.drop 32) g (.inl rfl) hm (by omega) (by rw [bIns_len (by omega)]; omega) (by omega)
        exact ⟨s', e', r, .split v hi (by omega) c p1 p2 p3, d.mono (by omega)⟩
      · rw [if_neg c]
        obtain ⟨s1, e1, x, s2, e2, y, s', e', r, p1, p2, p3, d⟩ := two_leafs (a := l.take 32) (b := bIns (l.drop 32) (i - 32) one) g (.inl rfl) hm (by omega) (by omega) (by rw [bIns_len (by omega)]; omega)
        exact ⟨s', e', r, .split' v hi (by omega) (by omega) p1 p2 p3, d.mono (by omega)⟩
  | .fork x y, i, s, L, h, g, hm, hL, r, f, hf, hi, hl, hh => by
    obtain ⟨fx, fy, g1, g2⟩ := hf.fork
    have el : (BT.fork x y).len = x.len + y.len := rfl
    have eh : (BT.fork x y).high = 1 + max x.high y.high := rfl
    rw [el] at hi hl
    rw [eh] at hh hL ⊢
    obtain ⟨k0, k1, v, r0, r1, f0, f1⟩ := vw_fork (L := L) r (f.live g r r.1) (by omega)
    obtain ⟨v0, u0, u1, _⟩ := vw_any r0 g f0 (by omega)
    have sn := g.snd (by omega) hm
    unfold binsert
    by_cases c : x.len < i
    · rw [if_pos c]
      have q0 := gd_keep g (i := k0) (by have := f0.live g r0 (r0.pos fx.some); omega)
      have E0 := went_keep s k0
      have m0 := E0.md
      obtain ⟨s2, e2, z, p, d⟩ := ins_ex y (i - x.len) (s.keep k0).1 (k0 :: L) k1 q0 (by omega) (by simp; omega) (r1.ext E0.ext) (f1.ext E0.ext fun _ hx => List.mem_cons_of_mem _ hx) fy.fine (by omega) (by omega) (by omega)
      have m1 := d.md
      obtain ⟨b1, b2, b3, b4⟩ := binsert_full y (i - x.len) one fy (by omega)
      have b5 := congrArg List.length b2
      rw [BT.len_list, bIns_len (by rw [BT.len_list]; omega), BT.len_list] at b5
      obtain ⟨s3, e3, w, p3, d3⟩ := fork_ex (x := k0) (y := z) (L := L) d.gd.swap2 d.eok (by omega) (by omega) ((((r0.ext E0.ext).ext d.went.ext).hd 0 (by omega)).err fun a => absurd rfl a) d.hd fx b1 (by omega) (by omega) (by omega) (by omega)
      exact ⟨s3, e3, w, .right v sn (by omega) u0 (by omega) (by rw [u1]; exact p) p3, ((d3.from d.went d.stuck).from E0 fun a => a).mono (by omega)⟩
    · rw [if_neg c]
      obtain ⟨s2, e2, z, p, d⟩ := ins_ex x i s L k0 g hm (by omega) r0 f0 fx.fine (by omega) (by omega) (by omega)
      have m1 := d.md
      obtain ⟨b1, b2, b3, b4⟩ := binsert_full x i one fx (by omega)
      have b5 := congrArg List.length b2
      rw [BT.len_list, bIns_len (by rw [BT.len_list]; omega), BT.len_list] at b5
      have r1' := r1.ext d.went.ext
      have q1 := gd_keep d.gd (i := k1) (by have := (f1.ext d.went.ext (L' := z :: L) fun _ hx => List.mem_cons_of_mem _ hx).live d.gd r1' (r1'.pos fy.some); omega)
      have E1 := went_keep s2 k1
      have m2 := E1.md
      obtain ⟨s3, e3, w, p3, d3⟩ := fork_ex (x := z) (y := k1) (L := L) q1.swap2 (d.eok.same (keep_busy' _ _) (keep_n _ _)) (by omega) (by omega) (d.hd.ext E1.ext) (((r1'.ext E1.ext).hd 0 (by omega)).err fun a => absurd rfl a) b1 fy (by omega) (by omega) (by omega) (by omega)
      exact ⟨s3, e3, w, .left v sn (by omega) u0 (by omega) p (d.gd.snd (by simp; omega) (by omega)) p3, ((d3.from E1 fun a => a).from d.went d.stuck).mono (by omega)⟩
theorem halves_ex {s : Ar} {e : Int} {L : List Int} {a b : List Bool} (g : Gd s L) (he : EOk s e) (hm : s.made - s.busy ≤ 1000000000) (hL : L.length ≤ 800000) (ha : a.length ≤ 64) (hb : b.length ≤ 64) :
    ∃ s' e' r, Halves s e a b s' e' r ∧ BRes s L e (bhalves a b) 3 s' e' r := by
  unfold bhalves
  by_cases c : a.length + b.length ≤ 64
  · rw [if_pos c]
    obtain ⟨s', e', r, p, d⟩ := leafs_ex (l := a ++ b) g he hm (by omega) (by simpa using c)
    exact ⟨s', e', r, .one ha hb c p, d.mono (by omega)⟩
  · rw [if_neg c]
    obtain ⟨s1, e1, x, s2, e2, y, s', e', r, p1, p2, p3, d⟩ := two_leafs (a := (a ++ b).take ((a.length + b.length + 1) / 2)) (b := (a ++ b).drop ((a.length + b.length + 1) / 2)) g he hm hL (by rw [List.length_take, List.length_append]; omega) (by rw [List.length_drop, List.length_append]; omega)
    exact ⟨s', e', r, .two ha hb (by omega) p1 p2 p3, d⟩
theorem pour_ex {ahead : Bool} : ∀ (t : BT) (s : Ar) (L : List Int) (h sm : Int) (z : List Bool), Gd s (h :: sm :: L) → s.made - s.busy ≤ 1000000000 → L.length + t.high ≤ 700000 → BRep s h t → BRep s sm (.leaf z) → z.length < 16 → t.Full → t.len ≤ 400000 → t.high ≤ 400 →
    ∃ s' e' r, Pour ahead s 0 h sm s' e' r ∧ BRes s L 0 (bpour t z ahead) (3 * t.high) s' e' r
  | .nil, _, _, _, _, _, _, _, _, _, _, _, hf, _, _ => hf.elim
  | .leaf l, s, L, h, sm, z, g, hm, hL, r, rz, hz, hf, _, _ => by
    have v := vw_leaf r (BFirm.live (L := h :: sm :: L) (.inl (by simp)) g r r.1)
    have v' := vw_leaf rz (BFirm.live (L := h :: sm :: L) (.inl (by simp)) g rz rz.1)
    have g2 := gd_drops [h, sm] (L := L) g fun y hy => by
      simp only [List.mem_cons, List.not_mem_nil, or_false] at hy
      rcases hy with rfl | rfl
      · exact r.range
      · exact rz.range
    have w := went_drops [h, sm] s
    have m := w.md
    have l2 := hf.2
    have hh : (BT.leaf l).high = 1 := rfl
    rw [hh]
    obtain ⟨s', e', q, p, d⟩ := halves_ex (e := 0) (a := if ahead = true then z else l) (b := if ahead = true then l else z) g2 (.inl rfl) (by omega) (by omega) (by split <;> omega) (by split <;> omega)
    refine ⟨s', e', q, .leaf v v' (g.snd (by simp; omega) hm) p, ?_⟩
    have : bpour (.leaf l) z ahead = bhalves (if ahead = true then z else l) (if ahead = true then l else z) := by cases ahead <;> rfl
    rw [this]
    exact (d.from w fun a => a).mono (by omega)
  | .fork x y, s, L, h, sm, z, g, hm, hL, r, rz, hz, hf, hl, hh => by
    obtain ⟨fx, fy, g1, g2⟩ := hf
    have el : (BT.fork x y).len = x.len + y.len := rfl
    have eh : (BT.fork x y).high = 1 + max x.high y.high := rfl
    rw [el] at hl
    rw [eh] at hh hL ⊢
    have v' := vw_leaf rz (BFirm.live (L := h :: sm :: L) (.inl (by simp)) g rz rz.1)
    have sn := g.snd (by simp; omega) hm
    obtain ⟨s1, k0, k1, o1, q1, w1, r0, r1, b1, n1⟩ := open_ex (L := sm :: L) g hm (by simp; omega) r fx.some fy.some (by omega)
    have m1 := w1.md
    unfold bpour
    cases ahead
    · rw [if_neg (by decide)]
      obtain ⟨s2, e2, p, pp, d⟩ := pour_ex (ahead := false) y s1 (k0 :: L) k1 sm z (q1.perm fun k _ => by simp only [cnt_cons]; omega) (by omega) (by simp; omega) r1 (rz.ext w1.ext) hz fy (by omega) (by omega)
      have m2 := d.md
      obtain ⟨c1, c2, c3, c4⟩ := bpour_is y z false fy hz
      have c5 := congrArg List.length c2
      rw [BT.len_list, bAdd, if_neg (by decide), List.length_append, BT.len_list] at c5
      obtain ⟨s3, e3, w, p3, d3⟩ := fork_ex (x := k0) (y := p) (L := L) d.gd.swap2 d.eok (by omega) (by omega) (((r0.ext d.went.ext).hd 0 (by omega)).err fun a => absurd rfl a) d.hd fx c1 (by omega) (by omega) (by omega) (by omega)
      exact ⟨s3, e3, w, .behind rfl v' sn o1 pp p3, ((d3.from d.went d.stuck).from w1 fun a => a).mono (by omega)⟩
    · rw [if_pos rfl]
      obtain ⟨s2, e2, p, pp, d⟩ := pour_ex (ahead := true) x s1 (k1 :: L) k0 sm z (q1.perm fun k _ => by simp only [cnt_cons]; omega) (by omega) (by simp; omega) r0 (rz.ext w1.ext) hz fx (by omega) (by omega)
      have m2 := d.md
      obtain ⟨c1, c2, c3, c4⟩ := bpour_is x z true fx hz
      have c5 := congrArg List.length c2
      rw [BT.len_list, bAdd, if_pos rfl, List.length_append, BT.len_list] at c5
      obtain ⟨s3, e3, w, p3, d3⟩ := fork_ex (x := p) (y := k1) (L := L) d.gd d.eok (by omega) (by omega) d.hd (((r1.ext d.went.ext).hd 0 (by omega)).err fun a => absurd rfl a) c1 fy (by omega) (by omega) (by omega) (by omega)
      exact ⟨s3, e3, w, .ahead rfl v' sn o1 pp p3, ((d3.from d.went d.stuck).from w1 fun a => a).mono (by omega)⟩
theorem BT.Near.some {t : BT} (h : t.Near) : t.isNil = false := by
  rcases h with h | ⟨l, rfl, _⟩
  · exact h.some
  · rfl
theorem BT.Near.full {t : BT} (h : t.Near) (e : t.small = false) : t.Full := by
  rcases h with h | ⟨l, rfl, _, a⟩
  · exact h
  · have : (BT.leaf l).small = true := decide_eq_true a
    rw [this] at e; cases e
theorem BT.small_leaf {t : BT} (h : t.small = true) : ∃ l, t = .leaf l ∧ l.length < 16 := by
  cases t with
  | leaf l => exact ⟨l, rfl, of_decide_eq_true h⟩
  | nil => cases h
  | fork a b => cases h
def bothCost (tx ty : BT) : Nat := if tx.small = true then 3 * ty.high else if ty.small = true then 3 * tx.high else 3
theorem both_ex {s : Ar} {e x y : Int} {L : List Int} {tx ty : BT} (g : Gd s (x :: y :: L)) (he : EOk s e) (hm : s.made - s.busy ≤ 1000000000) (hL : L.length ≤ 600000) (hx : BHd s e x tx) (hy : BHd s e y ty) (nx : tx.Near) (ny : ty.Near) (one : tx.small = false ∨ ty.small = false)
    (hb : tx.small = false → ty.small = false → tx.high ≤ ty.high + 2 ∧ ty.high ≤ tx.high + 2) (hb1 : tx.small = true → ty.high ≤ 2) (hb2 : ty.small = true → tx.high ≤ 2) (hh : tx.high ≤ 400 ∧ ty.high ≤ 400) (hl : tx.len + ty.len ≤ 400000) :
    ∃ s' e' r, Both s e x y s' e' r ∧ BRes s L e (bboth tx ty) (max 1 (bothCost tx ty)) s' e' r := by
  have sn := g.snd (by simp; omega) hm
  by_cases e0 : e = 0
  · subst e0
    have rx := hx.1 rfl
    have ry := hy.1 rfl
    have x0 := rx.pos nx.some
    have y0 := ry.pos ny.some
    obtain ⟨v, v1, _, _, v4⟩ := vw_any rx g (.inl (by simp)) (by omega)
    obtain ⟨v', v1', _, _, v4'⟩ := vw_any ry g (.inl (by simp)) (by omega)
    unfold bboth bothCost
    rw [if_neg (by rw [nx.some]; decide), if_neg (by rw [ny.some]; decide)]
    cases sx : tx.small
    · cases sy : ty.small
      · simp only [Bool.false_eq_true, if_false]
        obtain ⟨b1, b2⟩ := hb sx sy
        obtain ⟨s', e', r, p, d⟩ := fork_ex g he hm (by omega) hx hy (nx.full sx) (ny.full sy) b1 b2 (by omega) (by omega)
        exact ⟨s', e', r, .fork rfl sn (by omega) (by omega) v1 (by rw [v4, sx]) v1' (by rw [v4', sy]) p, d.mono (by omega)⟩
      · simp only [Bool.false_eq_true, if_false, if_true]
        obtain ⟨l, rfl, l2⟩ := BT.small_leaf sy
        have := hb2 sy
        obtain ⟨s', e', r, p, d⟩ := pour_ex (ahead := false) tx s L x y l g hm (by omega) rx ry l2 (nx.full sx) (by omega) (by omega)
        exact ⟨s', e', r, .right rfl sn (by omega) (by omega) v1 (by rw [v4, sx]) v1' (by rw [v4', sy]) p, d.mono (by omega)⟩
    · simp only [if_true]
      obtain ⟨l, rfl, l2⟩ := BT.small_leaf sx
      have := hb1 sx
      have sy : ty.small = false := by
        rcases one with h | h
        · rw [sx] at h; cases h
        · exact h
      obtain ⟨s', e', r, p, d⟩ := pour_ex (ahead := true) ty s L y x l g.swap2 hm (by omega) ry rx l2 (ny.full sy) (by omega) (by omega)
      exact ⟨s', e', r, .left rfl sn (by omega) (by omega) v1 (by rw [v4, sx]) p, d.mono (by omega)⟩
  · exact ⟨_, _, _, .err e0 sn, (err_res g he e0 hx hy).mono (by omega)⟩
end
end Go.Proofs.Ytjfeocoengheaaa
