/- Lists stay while they are had, whatever is freed. -/
import Derived.Test.YtlnnljkifdmmlaaL24
namespace Go.Proofs.Ytlnnljkifdmmlaa
open Go.RowKit

theorem rep_congr {s s' : Ar} (hn : s'.n = s.n) (hu : s'.u = s.u) (hd : s'.nd = s.nd) : ∀ {t : Tr} {h : Int}, Rep s h t → Rep s' h t
  | .nil, _, r => r
  | .item a b, h, ⟨r1, r2, r3, r4⟩ => ⟨r1, by rw [hn]; exact r2, by rw [hu]; exact r3, by rw [hd]; exact r4⟩
  | .join l r, h, ⟨r1, r2, r3, k0, k1, r4, r5, r6⟩ => ⟨r1, by rw [hn]; exact r2, by rw [hu]; exact r3, k0, k1, by rw [hd]; exact r4, rep_congr hn hu hd r5, rep_congr hn hu hd r6⟩
theorem rep_pop {s : Ar} {B : Int} {L : List Int} (g : Good s B L) {i : Int} {r : List Int} (hw : s.wt = i :: r) : ∀ {t : Tr} {h : Int}, Has s h t → Rep (s.pop i r) h t
  | .nil, _, x => x.rep
  | .item a b, h, x => by
    obtain ⟨r1, r2, r3, r4⟩ := x.rep
    have hp := x.pos g r1
    obtain ⟨i1, i2, _, i4⟩ := g.ok.wt i (by rw [hw]; simp)
    have ne : h.toNat ≠ i.toNat := fun e => by
      have : s.count h = s.c h.toNat := if_neg (by omega)
      rw [this, e, i4] at hp
      omega
    exact ⟨r1, r2, (upd_ne _ _ ne).trans r3, (upd_ne _ _ ne).trans r4⟩
  | .join l t, h, x => by
    obtain ⟨h1, k0', k1', e, x0, x1⟩ := x.join g
    obtain ⟨r1, r2, r3, k0, k1, r4, r5, r6⟩ := x.rep
    have hk : (s.get h).1 = s.nd h.toNat := by unfold Ar.get; rw [if_neg (by rw [r3]; simp; omega)]
    rw [e, r4] at hk
    injection hk with _ ea eb
    subst ea eb
    have hp := x.pos g r1
    obtain ⟨i1, i2, _, i4⟩ := g.ok.wt i (by rw [hw]; simp)
    have ne : h.toNat ≠ i.toNat := fun e => by
      have : s.count h = s.c h.toNat := if_neg (by omega)
      rw [this, e, i4] at hp
      omega
    exact ⟨r1, r2, (upd_ne _ _ ne).trans r3, k0', k1', (upd_ne _ _ ne).trans r4, rep_pop g hw x0, rep_pop g hw x1⟩
theorem good_free1 {s : Ar} {B : Int} {L : List Int} (g : Good s B L) {i : Int} {r : List Int} (hw : s.wt = i :: r) : Good (s.free1 i r) B L := by
  have h0 := g.acc.congr (H' := fun k => if k = 0 then 0 else cnt L k) fun k hk => if_neg (by omega)
  obtain ⟨H', a, b⟩ := acc_free1 h0 g.ok (if_pos rfl) hw
  exact ⟨ok_free1 g.ok hw, a.congr fun k hk => by rw [b k hk, if_neg (by omega)]⟩
theorem rep_free1 {s : Ar} {B : Int} {L : List Int} (g : Good s B L) {i : Int} {r : List Int} (hw : s.wt = i :: r) {t : Tr} {h : Int} (x : Has s h t) : Rep (s.free1 i r) h t := by
  rw [free1_eq]
  exact rep_congr (drops_n _ _) (drops_u _ _) (drops_nd _ _) (rep_pop g hw x)
theorem rep_work {B : Int} {L : List Int} {t : Tr} {h : Int} (hm : h = 0 ∨ h ∈ L) : ∀ (m : Nat) {s : Ar}, Good s B L → Rep s h t → Rep (s.work m).1 h t
  | 0, _, _, r => r
  | m + 1, s, g, r => by
    unfold Ar.work
    split
    · exact r
    · rename_i i rr hw
      have hx : Has s h t := by
        rcases hm with rfl | hm
        · exact ⟨r, .inl rfl⟩
        · exact g.has r hm
      exact rep_work hm m (good_free1 g hw) (rep_free1 g hw hx)
theorem Lh.work {s : Ar} {B : Int} {L : List Int} {h : Int} {l : List (Int × Int)} (x : Lh s h l) (g : Good s B L) (hm : h = 0 ∨ h ∈ L) (m : Nat) : Lh (s.work m).1 h l := by
  obtain ⟨t, a, b, c⟩ := x
  exact ⟨t, rep_work hm m g a, b, c⟩
theorem Lh.drop {s : Ar} {h : Int} {l : List (Int × Int)} (x : Lh s h l) (i : Int) : Lh (s.drop i).1 h l := x.ext (ext_drop s i)
theorem work_busy_le (m : Nat) (s : Ar) : (s.work m).1.busy ≤ s.busy := by
  induction m generalizing s with
  | zero => exact Int.le_refl _
  | succ m ih =>
    unfold Ar.work
    split
    · exact Int.le_refl _
    · rename_i i r hw
      have := ih (s.free1 i r)
      have e : (s.free1 i r).busy = s.busy - 1 := by rw [free1_eq, drops_busy]; rfl
      simp only
      omega
theorem work_n' (m : Nat) (s : Ar) : (s.work m).1.n = s.n := by
  induction m generalizing s with
  | zero => rfl
  | succ m ih =>
    unfold Ar.work
    split
    · rfl
    · rename_i i r hw
      exact (ih (s.free1 i r)).trans (by rw [free1_eq, drops_n]; rfl)
section
variable {w W W' : World} {K : Nat → Prop} {p n k : Nat} {s : Ar} {L : List Int}
theorem LS.drop {i : Int} (h : LS w K p n k s (i :: L) W) (i0 : 0 ≤ i) (i1 : i ≤ s.n) (ha : Ars W' K p (s.drop i).1) (hk : Kept K W W') : LS w K p n k (s.drop i).1 L W' :=
  ⟨ha, good_drop h.good i0 i1, (drop_n s i).trans h.n, by rw [drop_busy]; exact h.busy, h.kept.trans hk⟩
theorem LS.work {m : Nat} (h : LS w K p n k s L W) (ha : Ars W' K p (s.work m).1) (hk : Kept K W W') : LS w K p n k (s.work m).1 L W' :=
  ⟨ha, good_work h.good m, (work_n' m s).trans h.n, Int.le_trans (work_busy_le m s) h.busy, h.kept.trans hk⟩
theorem LS.perm {L' : List Int} (h : LS w K p n k s L W) (e : ∀ k, 1 ≤ k → cnt L' k = cnt L k) : LS w K p n k s L' W := ⟨h.ars, h.good.perm e, h.n, h.busy, h.kept⟩
theorem LS.more {K' : Nat → Prop} (h : LS w K p n k s L W) (hk : ∀ b, K' b → K b) : LS w K' p n k s L W := ⟨h.ars.more hk, h.good, h.n, h.busy, h.kept.mono fun b _ hb => hk b hb⟩
end
theorem ItemsArg.kept {w wx W : World} {v : Value} {l : List (Int × Int)} {K : Nat → Prop} (h : ItemsArg w v l) (hb : Below w.heap.size w wx) (hk : Kept K wx W) (hK : ∀ b, b < w.heap.size → K b) : Items W v l :=
  ⟨h.items.val, fun i hi => by
    obtain ⟨b, off, c, e, hlt, hc, hj⟩ := h.items.cell i hi
    have h1 : b < wx.heap.size := Nat.lt_of_lt_of_le hlt hb.size
    exact ⟨b, off, c, e, Nat.lt_of_lt_of_le h1 hk.size, hc, fun j hj' => ⟨(hk.cell h1 (hK b hlt)).trans ((hb.cell (p := ⟨b, _, none⟩) hlt).trans (hj j hj').1), (hk.cell h1 (hK b hlt)).trans ((hb.cell (p := ⟨b, _, none⟩) hlt).trans (hj j hj').2)⟩⟩⟩
end Go.Proofs.Ytlnnljkifdmmlaa
