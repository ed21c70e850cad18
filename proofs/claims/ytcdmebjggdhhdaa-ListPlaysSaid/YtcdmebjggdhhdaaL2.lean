/- Trees in the arena: what list.node and list.Len answer of one. -/
import Derived.Test.YtcdmebjggdhhdaaL1
namespace Go.Proofs.Ytcdmebjggdhhdaa
open Go.RowKit

/-- The arena holds the tree at a handle that is had. -/
structure Has (s : Ar) (h : Int) (t : Tr) : Prop where
  rep : Rep s h t
  live : h = 0 ∨ s.count h ≠ 0
theorem Rep.range {s : Ar} {h : Int} {t : Tr} (r : Rep s h t) : 0 ≤ h ∧ h ≤ s.n := by
  cases t with
  | nil => have : h = 0 := r; omega
  | item a b => have := r.1; have := r.2.1; omega
  | join l r' => have := r.1; have := r.2.1; omega
theorem Rep.pos {s : Ar} {h : Int} {t : Tr} (r : Rep s h t) (e : t.isNil = false) : 1 ≤ h := by
  cases t with
  | nil => cases e
  | item a b => exact r.1
  | join l r' => exact r.1
theorem Good.has {s : Ar} {B : Int} {L : List Int} (g : Good s B L) {h : Int} {t : Tr} (r : Rep s h t) (m : h ∈ L) : Has s h t :=
  ⟨r, by
    by_cases e : h = 0
    · exact .inl e
    · have := r.range; exact .inr (g.live (by omega) this.2 m)⟩
theorem get_zero (s : Ar) : s.get 0 = (Nd.zero, false) := if_pos (Or.inl (by decide))
theorem Has.pos {s : Ar} {B : Int} {L : List Int} (g : Good s B L) {h : Int} {t : Tr} (x : Has s h t) (h1 : 1 ≤ h) : 0 < s.count h := by
  have r := x.rep.range
  have e : s.count h = s.c h.toNat := if_neg (by omega)
  have := g.ok.c h.toNat
  rcases x.live with z | z
  · omega
  · omega
theorem Has.item {s : Ar} {h a b : Int} (x : Has s h (.item a b)) : 1 ≤ h ∧ s.get h = (⟨4, 0, 0, 0, 0, a, b⟩, true) := by
  obtain ⟨r1, r2, r3, r4⟩ := x.rep
  refine ⟨r1, ?_⟩
  unfold Ar.get
  rw [if_neg (by rw [r3]; simp; omega), r4]
theorem Has.join {s : Ar} {B : Int} {L : List Int} (g : Good s B L) {h : Int} {l r : Tr} (x : Has s h (.join l r)) :
    1 ≤ h ∧ ∃ k0 k1, s.get h = (⟨5, k0, k1, 0, 0, ((l.len + r.len : Nat) : Int), 0⟩, true) ∧ Has s k0 l ∧ Has s k1 r := by
  obtain ⟨r1, r2, r3, k0, k1, r4, r5, r6⟩ := x.rep
  refine ⟨r1, k0, k1, ?_, ⟨r5, ?_⟩, ⟨r6, ?_⟩⟩
  · unfold Ar.get
    rw [if_neg (by rw [r3]; simp; omega), r4]
  · by_cases e : k0 = 0
    · exact .inl e
    · have := r5.range; exact .inr (g.kid r1 r2 r3 (by rw [r4]; simp [Nd.kids]) (by omega)).2
  · by_cases e : k1 = 0
    · exact .inl e
    · have := r6.range; exact .inr (g.kid r1 r2 r3 (by rw [r4]; simp [Nd.kids]) (by omega)).2

section
variable {K : Nat → Prop} {p : Nat} {s : Ar} {w : World} {B : Int} {L : List Int}
theorem node_nil (ha : Ars w K p s) (hf : s.Fit) :
    Calls Try.prog 30 #[.pointer (some ⟨p, 0, none⟩), .int .i64 0] w fun r w' => r = .returned (.tuple #[.agg #[.int .i64 0, .int .i64 0, .int .i64 0, .int .i64 0, .int .i64 0, .int .u64 0, .int .u64 0], .bool false]) ∧ Ars w' K p s ∧ Below w.heap.size w w' :=
  lnode_is 0 (get_zero s) rfl rfl (fun h => by cases h) ha hf
theorem node_item {h a b : Int} (g : Good s B L) (hf : s.Fit) (x : Has s h (.item a b)) (ha : Ars w K p s) :
    Calls Try.prog 30 #[.pointer (some ⟨p, 0, none⟩), .int .i64 h] w fun r w' => r = .returned (.tuple #[.agg #[.int .i64 4, .int .i64 0, .int .i64 0, .int .i64 0, .int .i64 0, .int .u64 a, .int .u64 b], .bool true]) ∧ Ars w' K p s ∧ Below w.heap.size w w' :=
  lnode_is h x.item.2 rfl rfl (fun _ => ⟨x.pos g x.item.1, .inl rfl⟩) ha hf
theorem node_join {h : Int} {l r : Tr} {k0 k1 : Int} {m : Nat} (g : Good s B L) (hf : s.Fit) (x : Has s h (.join l r)) (e : s.get h = (⟨5, k0, k1, 0, 0, (m : Int), 0⟩, true)) (ha : Ars w K p s) :
    Calls Try.prog 30 #[.pointer (some ⟨p, 0, none⟩), .int .i64 h] w fun r w' => r = .returned (.tuple #[.agg #[.int .i64 5, .int .i64 k0, .int .i64 k1, .int .i64 0, .int .i64 0, .int .u64 m, .int .u64 0], .bool true]) ∧ Ars w' K p s ∧ Below w.heap.size w w' :=
  lnode_is h e rfl rfl (fun _ => ⟨x.pos g x.rep.1, .inr rfl⟩) ha hf
set_option maxHeartbeats 1000000 in
theorem llen_is {h : Int} {t : Tr} (g : Good s B L) (hB : B ≤ 1000000000000) (x : Has s h t) (hl : t.len ≤ 1000000) (ha : Ars w K p s) :
    Calls Try.prog 8 #[.pointer (some ⟨p, 0, none⟩), .int .i64 h] w fun r w' => r = .returned (.int .i64 t.len) ∧ Ars w' K p s ∧ Below w.heap.size w w' := by
  have hf := g.ok.fit hB
  cases t with
  | nil =>
    obtain rfl : h = 0 := x.rep
    have H := Lib.hid (node_nil ha hf)
    clear g x ha hf hl
    go_enter Try.func8, Try.ntmps8
    go_wp2_with fail
    refine H.out.mono ?_
    rintro e w1 ⟨rfl, ha, hk⟩
    go_wp2_with fail
    go_ret
    exact ⟨rfl, ha.alloc _, hk.alloc hk.size _⟩
  | item a b =>
    have H := Lib.hid (node_item g hf x ha)
    clear g x ha hf hl
    go_enter Try.func8, Try.ntmps8
    go_wp2_with fail
    refine H.out.mono ?_
    rintro e w1 ⟨rfl, ha, hk⟩
    go_wp2_with fail
    go_ret
    exact ⟨rfl, ha.alloc _, hk.alloc hk.size _⟩
  | join l r =>
    obtain ⟨h1, k0, k1, e, x0, x1⟩ := x.join g
    have H := Lib.hid (node_join g hf x e ha)
    have hl' : l.len + r.len ≤ 1000000 := hl
    have e : (Tr.join l r).len = l.len + r.len := rfl
    rw [e]
    clear g x ha hf hl x0 x1 e
    generalize l.len + r.len = m at *
    go_enter Try.func8, Try.ntmps8
    go_wp2_with fail
    refine H.out.mono ?_
    rintro e w1 ⟨rfl, ha, hk⟩
    go_wp2_with fail
    go_ret
    exact ⟨rfl, ha.alloc _, hk.alloc hk.size _⟩
end
end Go.Proofs.Ytcdmebjggdhhdaa
