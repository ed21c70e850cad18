/- Both kids of a join that is handed over: what is had behind it. -/
import Derived.Test.YtlnnljkifdmmlaaL6
namespace Go.Proofs.Ytlnnljkifdmmlaa
open Go.RowKit

theorem keep_busy (s : Ar) (i : Int) : (s.keep i).1.busy = s.busy := by
  unfold Ar.keep
  split <;> rfl
section
variable {K : Nat → Prop} {q p : Nat} {s s' s1 s2 s3 : Ar} {B : Int} {L : List Int} {e : Int} {w : World}
theorem tkeep_good {h : Int} {t : Tr} (g : Good s B L) (hB : B ≤ 100000000) (x : Has s h t) (ht : t.isNil = false) (ha : Tre w K q p s e) :
    Calls Try.prog 36 #[.pointer (some ⟨q, 0, none⟩), .int .i64 h] w fun r w' =>
      ∃ s' : Ar, r = .returned (.int .i64 h) ∧ Tre w' K q p s' e ∧ Kept K w w' ∧ Good s' (B + 1) (h :: L) ∧ Ext s s' ∧ s'.busy = s.busy := by
  have h1 := x.rep.pos ht
  have hc : s.count h ≠ 0 := by have := x.pos g h1; omega
  exact (tkeep_is (s' := (s.keep h).1) (e1 := (s.keep h).2) h rfl (g.ok.fit (by omega)) ha).mono fun r w' ⟨a, b, c⟩ => ⟨_, a, b, c, (good_keep g hc).2, ext_keep s h, keep_busy s h⟩
theorem topen_good {h : Int} {l r : Tr} (g : Good s B (h :: L)) (hB : B ≤ 100000000) (x : Rep s h (.join l r)) (nl : l.isNil = false) (nr : r.isNil = false) (ha : Tre w K q p s e) :
    Calls Try.prog 45 #[.pointer (some ⟨q, 0, none⟩), .int .i64 h] w fun o w' =>
      ∃ (k0 k1 : Int) (s' : Ar), o = .returned (.tuple #[.int .i64 k0, .int .i64 k1]) ∧ Tre w' K q p s' e ∧ Kept K w w' ∧ Good s' (B + 2) (k0 :: k1 :: L) ∧ Ext s s' ∧ Rep s' k0 l ∧ Rep s' k1 r ∧ s'.busy = s.busy := by
  have hx := g.has x (by simp)
  obtain ⟨h1, k0, k1, hg, y0, y1⟩ := hx.join g
  have hc := hx.pos g h1
  have p0 := y0.rep.pos nl
  have p1 := y1.rep.pos nr
  have c0 : s.count k0 ≠ 0 := by have := y0.pos g p0; omega
  obtain ⟨_, g1⟩ := good_keep g c0
  have x1 := ext_keep s k0
  have y1' : Has (s.keep k0).1 k1 r := by
    obtain ⟨_, k0', k1', hg', z0, z1⟩ := (g1.has (x.ext x1) (by simp)).join g1
    have : k1' = k1 := by
      have e1 : (s.keep k0).1.get h = s.get h := by
        obtain ⟨r1, r2, r3, _⟩ := x
        unfold Ar.get
        rw [x1.n, x1.nd _ r3, x1.u _ r3, r3]
      rw [e1, hg] at hg'
      injection hg' with a _
      injection a with _ _ a
      exact a.symm
    rwa [this] at z1
  have c1 : (s.keep k0).1.count k1 ≠ 0 := by have := y1'.pos g1 p1; omega
  obtain ⟨_, g2⟩ := good_keep g1 c1
  have x2 := ext_keep (s.keep k0).1 k1
  have xh : h ≤ ((s.keep k0).1.keep k1).1.n := by rw [x2.n, x1.n]; exact x.range.2
  have g3 : Good (((s.keep k0).1.keep k1).1.drop h).1 (B + 1 + 1) (k0 :: k1 :: L) :=
    good_drop (i := h) (g2.perm fun k _ => by simp only [cnt_cons]; omega) (by omega) xh
  have x3 := ext_drop ((s.keep k0).1.keep k1).1 h
  have xx := (x1.trans x2).trans x3
  refine (topen_is (s1 := (s.keep k0).1) (s2 := ((s.keep k0).1.keep k1).1) (s3 := (((s.keep k0).1.keep k1).1.drop h).1) (e0 := (s.keep k0).2) (e1 := ((s.keep k0).1.keep k1).2) (e2 := (((s.keep k0).1.keep k1).1.drop h).2) h hg hc rfl rfl rfl (g.ok.fit (by omega)) (g1.ok.fit (by omega)) (g2.ok.fit (by omega)) ha).mono ?_
  rintro o w' ⟨rfl, ht, hk⟩
  exact ⟨k0, k1, _, rfl, ht, hk, g3.mono (by omega), xx, y0.rep.ext xx, y1.rep.ext xx, by rw [drop_busy, keep_busy, keep_busy]⟩
end
end Go.Proofs.Ytlnnljkifdmmlaa
