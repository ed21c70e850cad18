/- A row of symbols that is read: what is at a node. -/
import Derived.Test.YtdipgcbppggdhaaWv2
namespace Go.Proofs.Ytdipgcbppggdhaa
set_option maxRecDepth 100000
open Go.RowKit
theorem box7 {W : World} {z : Nat} {tag k0 k1 k2 k3 A B : Int} (h : W.heap[z]? = some (.cells #[.int .i64 tag, .int .i64 k0, .int .i64 k1, .int .i64 k2, .int .i64 k3, .int .u64 A, .int .u64 B] 47 (0, 0))) : W.cell? ⟨z, 0, none⟩ = some (.int .i64 tag) ∧ W.cell? ⟨z, 1, none⟩ = some (.int .i64 k0) ∧ W.cell? ⟨z, 2, none⟩ = some (.int .i64 k1) ∧ W.cell? ⟨z, 3, none⟩ = some (.int .i64 k2) ∧ W.cell? ⟨z, 4, none⟩ = some (.int .i64 k3) ∧ W.cell? ⟨z, 5, none⟩ = some (.int .u64 A) ∧ W.cell? ⟨z, 6, none⟩ = some (.int .u64 B) :=
  ⟨cell_of_row _ _ _ _ _ _ h, cell_of_row _ _ _ _ _ _ h, cell_of_row _ _ _ _ _ _ h, cell_of_row _ _ _ _ _ _ h, cell_of_row _ _ _ _ _ _ h, cell_of_row _ _ _ _ _ _ h, cell_of_row _ _ _ _ _ _ h⟩
theorem box7_keep {W W' : World} {z : Nat} {tag k0 k1 k2 k3 A B : Int} (hb : Below W.heap.size W W') (h : W.cell? ⟨z, 0, none⟩ = some (.int .i64 tag) ∧ W.cell? ⟨z, 1, none⟩ = some (.int .i64 k0) ∧ W.cell? ⟨z, 2, none⟩ = some (.int .i64 k1) ∧ W.cell? ⟨z, 3, none⟩ = some (.int .i64 k2) ∧ W.cell? ⟨z, 4, none⟩ = some (.int .i64 k3) ∧ W.cell? ⟨z, 5, none⟩ = some (.int .u64 A) ∧ W.cell? ⟨z, 6, none⟩ = some (.int .u64 B)) : W'.cell? ⟨z, 0, none⟩ = some (.int .i64 tag) ∧ W'.cell? ⟨z, 1, none⟩ = some (.int .i64 k0) ∧ W'.cell? ⟨z, 2, none⟩ = some (.int .i64 k1) ∧ W'.cell? ⟨z, 3, none⟩ = some (.int .i64 k2) ∧ W'.cell? ⟨z, 4, none⟩ = some (.int .i64 k3) ∧ W'.cell? ⟨z, 5, none⟩ = some (.int .u64 A) ∧ W'.cell? ⟨z, 6, none⟩ = some (.int .u64 B) := by
  obtain ⟨a0, a1, a2, a3, a4, a5, a6⟩ := h
  have l := block_lt_of_cell a0
  exact ⟨(hb.cell (p := ⟨z, 0, none⟩) l).trans a0, (hb.cell (p := ⟨z, 1, none⟩) l).trans a1, (hb.cell (p := ⟨z, 2, none⟩) l).trans a2, (hb.cell (p := ⟨z, 3, none⟩) l).trans a3, (hb.cell (p := ⟨z, 4, none⟩) l).trans a4, (hb.cell (p := ⟨z, 5, none⟩) l).trans a5, (hb.cell (p := ⟨z, 6, none⟩) l).trans a6⟩
section
variable {w w' : World} {K : Nat → Prop} {p : Nat} {s s' : Ar} {L L' : List Int} {n : Nat} {h : Int} {xs : List Nat}
/-- What is at the node of a row of symbols. -/
structure WNode (s : Ar) (L : List Int) (n : Nat) (h : Int) (xs : List Nat) (x : Nd) : Prop where
  row : ∀ {w : World} {K : Nat → Prop} {p : Nat}, Ars w K p s → Calls Try.prog 29 #[.pointer (some ⟨p, 0, none⟩), .int .i64 h] w fun r w' => (∃ b : Bool, r = .returned (.tuple #[.agg #[.int .i64 x.tag, .int .i64 x.k0, .int .i64 x.k1, .int .i64 x.k2, .int .i64 x.k3, .int .u64 x.A, .int .u64 x.B], .bool b])) ∧ Ars w' K p s ∧ Below w.heap.size w w'
  bits : FRow s L x.k0 (xs.map (wb n))
  zero : WRep s n x.k1 (xs.filter fun y => !wb n y)
  one : WRep s n x.k2 (xs.filter (wb n))
  fz : BFirm s L x.k1
  fo : BFirm s L x.k2
theorem wnode (g : Gd s L) (sn : Snd s) (hz : (0 : Int) ∈ L) (r : WRep s (n + 1) h xs) (f : BFirm s L h) (hx : xs.length ≤ 5000) : ∃ x : Nd, WNode s L n h xs x := by
  rcases r with ⟨rfl, rfl⟩ | ⟨a, b, c, d, kb, k0, k1, t, e1, e2, e3, e4, e5, e6⟩
  · refine ⟨Nd.zero, fun ha => wrow_is (x := Nd.zero) (g := false) 0 (by unfold Ar.get; rw [if_pos (.inl (by decide))]) rfl (fun e => by cases e) ha sn.fit, ⟨.nil, rfl, .inl hz, .inl rfl, rfl, Nat.zero_le _⟩, WRep.nil s n, WRep.nil s n, .inl hz, .inl hz⟩
  · have hk : (s.nd h.toNat).kids = [kb, k0, k1, 0] := by rw [e1]; rfl
    have hc : 0 < s.count h := by
      rcases f with f | ⟨u, u1, u2, u3, u4⟩
      · exact g.pos (g.live b c f)
      · exact g.pos (g.kid (h := u) (by omega) (by omega) u3 u4 b).2
    have hf : ∀ k, k ∈ [kb, k0, k1, 0] → BFirm s L k := fun k hk' => .inr ⟨h.toNat, by omega, by omega, d, by rw [hk]; exact hk'⟩
    have hl : t.len = xs.length := by rw [← t.len_list, e4, List.length_map]
    exact ⟨⟨3, kb, k0, k1, 0, 0, 0⟩, fun ha => wrow_is (x := ⟨3, kb, k0, k1, 0, 0, 0⟩) (g := true) h (by rw [get_used b c d, e1]) rfl (fun _ => hc) ha sn.fit, ⟨t, e2, hf kb (by simp), e3, e4, by omega⟩, e5, e6, hf k0 (by simp), hf k1 (by simp)⟩
set_option maxHeartbeats 2000000 in
theorem wlen_node {x : Nd} (g : Gd s L) (sn : Snd s) (N : WNode s L n h xs x) (ha : Ars w K p s) :
    Calls Try.prog 20 #[.pointer (some ⟨p, 0, none⟩), .int .i64 h] w fun e w' => e = .returned (.int .i64 xs.length) ∧ Below w.heap.size w w' := by
  have H := Lib.hid (N.row ha)
  have HL := fun W (ha : Ars W K p s) => Lib.hid (flen_row g sn N.bits ha)
  rw [List.length_map] at HL
  clear N g sn ha
  obtain ⟨tag, k0, k1, k2, k3, A, B⟩ := x
  dsimp only at H HL
  go_enter Try.func20, Try.ntmps20
  go_wp2_with fail
  refine H.out.mono ?_
  rintro e w1 ⟨⟨b, rfl⟩, ha, hk⟩
  have A1 := Lib.hid (ha.alloc (.cells #[.int .i64 tag, .int .i64 k0, .int .i64 k1, .int .i64 k2, .int .i64 k3, .int .u64 A, .int .u64 B] 47))
  have B1 := Lib.hid (hk.alloc hk.size (.cells #[.int .i64 tag, .int .i64 k0, .int .i64 k1, .int .i64 k2, .int .i64 k3, .int .u64 A, .int .u64 B] 47))
  clear ha hk H
  go_wp2_with fail
  refine (HL _ A1.out).out.mono ?_
  rintro e w2 ⟨rfl, hb⟩
  go_wp2_with fail
  go_ret
  exact ⟨rfl, B1.out.trans (hb.mono B1.out.size)⟩
theorem wlen_is (g : Gd s L) (sn : Snd s) (hz : (0 : Int) ∈ L) (r : WRep s (n + 1) h xs) (f : BFirm s L h) (hx : xs.length ≤ 5000) (ha : Ars w K p s) :
    Calls Try.prog 20 #[.pointer (some ⟨p, 0, none⟩), .int .i64 h] w fun e w' => e = .returned (.int .i64 xs.length) ∧ Below w.heap.size w w' := by
  obtain ⟨x, N⟩ := wnode g sn hz r f hx
  exact wlen_node g sn N ha
end
end Go.Proofs.Ytdipgcbppggdhaa
