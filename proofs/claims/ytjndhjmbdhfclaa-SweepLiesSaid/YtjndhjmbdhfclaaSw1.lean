/- Package sweep: all live nodes; the kids of those that wait; two lists behind one another. -/
import Derived.Test.YtjndhjmbdhfclaaRe
import Derived.Test.YtjndhjmbdhfclaaChn
import Derived.Laws.OwnMore
namespace Go.Proofs.Ytjndhjmbdhfclaa
set_option maxRecDepth 100000
open Go.RowKit

def liveTo (s : Ar) (k : Nat) : List Int := (upto k).filter fun h => decide (s.count h > 0)
theorem upto_succ (k : Nat) : upto (k + 1) = upto k ++ [(k : Int) + 1] := by simp [upto, List.range_succ]
theorem liveTo_succ (s : Ar) (k : Nat) : liveTo s (k + 1) = liveTo s k ++ if s.count ((k : Int) + 1) > 0 then [(k : Int) + 1] else [] := by
  unfold liveTo
  rw [upto_succ, List.filter_append]
  by_cases h : s.count ((k : Int) + 1) > 0
  · rw [if_pos h]; simp [h]
  · rw [if_neg h]; simp [h]
theorem liveTo_len (s : Ar) (k : Nat) : (liveTo s k).length ≤ k := by
  have := List.length_filter_le (fun h => decide (s.count h > 0)) (upto k)
  rw [upto_len] at this
  exact this
/-- The kids of all that wait. -/
def waitTo (s : Ar) : Nat → List Int
  | 0 => []
  | k + 1 => waitTo s k ++ if s.u (k + 1) = true ∧ s.count ((k : Int) + 1) = 0 then (s.nd (k + 1)).kids else []
theorem waitTo_len (s : Ar) : ∀ k, (waitTo s k).length ≤ 4 * k
  | 0 => Nat.le_refl _
  | k + 1 => by
    have := waitTo_len s k
    unfold waitTo
    rw [List.length_append]
    split
    · have : (s.nd (k + 1)).kids.length = 4 := rfl
      omega
    · simp; omega
theorem run_append_any {w : World} {B : Nat} {K : Nat → Prop} {v vx : Value} {xs ys : List Int} (hL : Lst w B K v xs) (hlt : ∀ b, K b → b < w.heap.size) (hB : B ≤ w.heap.size) (hI : Ints w vx ys) (hlen : xs.length + ys.length ≤ 1000000000) (ty : TypeId) :
    ∃ v' w' K', (Builtin.append_ #[33, 33] ty #[v, vx]).run Try.prog w = .ok v' w' ∧ PushedS w w' B K K' v' (xs ++ ys) := by
  rcases hI with ⟨rfl, rfl⟩ | ⟨b, off, c, rfl, h1, h2, h3⟩
  · obtain ⟨i0, hi, hz0, hz1, hz2⟩ := info_parts info_int
    refine ⟨v, w, K, run_append_owned_none w B 33 ty 3 i0 1 Try.underlying33 hi v xs.length _ hL.1, ⟨by simpa using hL, fun b hb => hb, fun b hb => ⟨hlt b hb, .inl hb⟩, Nat.le_refl _, fun _ _ _ => rfl, Below.refl _ _⟩⟩
  · exact run_append_ints hL hlt hB ⟨b, off, none⟩ ys.length c rfl hlen (fun j hj => by rw [Addr.add_lit]; exact h3 j hj) ty
theorem wpList_append_any {w : World} {B : Nat} {K : Nat → Prop} {v vx : Value} {xs ys : List Int} {ops : Array Oper} {rest : List Oper} {o : Oper} {a : Act} {Q : Exit → Act → World → Prop} (hL : Lst w B K v xs) (hlt : ∀ b, K b → b < w.heap.size) (hB : B ≤ w.heap.size) (hI : Ints w vx ys) (hlen : xs.length + ys.length ≤ 1000000000) (hgd : o.guard = none) (s x : Operand)
    (ho : o.op = Op.call { callee := Callee.builtin Builtin.append, args := #[s, x], argTypes := #[33, 33] }) (hs : a.eval s = v) (hx : a.eval x = vx) (h : ∀ v' w' K', PushedS w w' B K K' v' (xs ++ ys) → wpList Try.prog ops Q rest (a.put o.dst v') w') : wpList Try.prog ops Q (o :: rest) a w := by
  refine wpList_plain hgd fun _ hK => ?_
  obtain ⟨v', w', K', hr, hp⟩ := run_append_any hL hlt hB hI hlen o.type
  unfold Oper.wp execOp
  simp only [ho, resolve, invoke, builtin, Sem.run_bind, Sem.run_pure, Result.andThen_ok, List.map_toArray, List.map_cons, List.map_nil, hs, hx, hr]
  exact hK _ _ (h v' w' K' hp)
theorem Lst.of_below {w w' : World} {B : Nat} {K : Nat → Prop} {v : Value} {xs : List Int} (h : Lst w B K v xs) (hb : Below w.heap.size w w') : Lst w' B K v xs := h.kept (Kept.of_below hb K)
section
variable {K : Nat → Prop} {p : Nat} {s : Ar} {w : World}
set_option maxHeartbeats 4000000 in
theorem live_is (ha : Ars w K p s) (hf : s.Fit) :
    Calls Try.prog 38 #[.pointer (some ⟨p, 0, none⟩)] w fun e w' => ∃ v Ko, e = .returned v ∧ Lst w' w.heap.size Ko v (liveTo s s.n) ∧ (∀ b, Ko b → w.heap.size ≤ b ∧ b < w'.heap.size) ∧ Below w.heap.size w w' := by
  have Ha := Lib.hid ha
  have Hf := Lib.hid hf
  have hn := hf.n
  clear ha hf
  go_enter Try.func38, Try.ntmps38
  go_wp2_with fail
  go_loopw [3, 4] (fun v i W => ∃ (k : Nat) (Ko : Nat → Prop), i = .int .i64 ((k : Int) + 1) ∧ k ≤ s.n ∧ Lst W w.heap.size Ko v (liveTo s k) ∧ (∀ b, Ko b → w.heap.size ≤ b ∧ b < W.heap.size) ∧ Below w.heap.size w W) (fun _ i _ => s.n + 1 - (intOf i).toNat)
  case atStart => exact ⟨0, fun _ => False, rfl, by omega, Lst.nil _ _ _, fun b h => h.elim, Below.refl _ _⟩
  case round =>
    obtain ⟨k, Ko, rfl, k1, hl, hk, hb⟩ := hrel
    have Hl := Lib.hid hl
    have Hk := Lib.hid hk
    have Hb := Lib.hid hb
    have Hs := Lib.hid (size_is rfl (Ha.out.below hb) Hf.out)
    clear hl hk hb
    by_cases hlt : k < s.n
    · have hls := liveTo_succ s k
      have Hls := Lib.hid hls
      clear hls
      have H := Lib.hid (count_is ((k : Int) + 1) rfl (Ha.out.below Hb.out) Hf.out)
      have hll := liveTo_len s k
      by_cases hc : s.count ((k : Int) + 1) > 0
      · have hc' : decide (0 < s.count ((k : Int) + 1)) = true := by simpa using hc
        have Hls2 := Lib.hid (show liveTo s (k + 1) = liveTo s k ++ [(k : Int) + 1] by rw [Hls.out, if_pos hc])
        have Lo5 := Lib.hid (Hl.out.kept ((Kept.refl Ko wr).alloc (.cells #[.int .i64 ((k : Int) + 1)] 3)))
        have Kx5 := Lib.hid (show ∀ b, Ko b → b < (wr.alloc (.cells #[.int .i64 ((k : Int) + 1)] 3)).heap.size from fun b hb => by have := (Hk.out b hb).2; simp; omega)
        have Bs5 := Lib.hid (show w.heap.size ≤ (wr.alloc (.cells #[.int .i64 ((k : Int) + 1)] 3)).heap.size by have := Hb.out.size; simp; omega)
        have Ln5 := Lib.hid (show (liveTo s k).length + 1 ≤ 1000000000 by omega)
        clear hc hll
        generalize s.count ((k : Int) + 1) = cc at *
        go_wp2_with (first | (go_at_call 40; refine Hs.out.mono ?_; rintro e w' ⟨rfl, rfl⟩) | (go_at_call 21; refine H.out.mono ?_; rintro e w' ⟨rfl, rfl⟩) | (at_builtin; refine wpList_append_lst Lo5.out Kx5.out Bs5.out Ln5.out rfl (.tmp 15) (.tmp 17) rfl rfl ⟨wr.heap.size, 0, none⟩ ((k : Int) + 1) 1 rfl (cell_new rfl rfl) ?_))
        intro v' w7 K2 hp
        have HP := Lib.hid hp
        clear hp
        go_wp2_with fail
        go_roundw
        case rel => exact ⟨k + 1, K2, by go_num, by omega, by rw [Hls2.out]; exact HP.out.lst, fun b hb => by obtain ⟨c, d⟩ := HP.out.new b hb; rcases d with d | d; exact ⟨(Hk.out b d).1, c⟩; simp at d; exact ⟨by have := Hb.out.size; omega, c⟩, (Hb.out.alloc Hb.out.size _).trans HP.out.below⟩
        case measure => simp [intOf]; omega
      · have hc' : decide (0 < s.count ((k : Int) + 1)) = false := by simpa using hc
        have Hls2 := Lib.hid (show liveTo s (k + 1) = liveTo s k by rw [Hls.out, if_neg hc, List.append_nil])
        clear hc hll
        generalize s.count ((k : Int) + 1) = cc at *
        go_wp2_with (first | (go_at_call 40; refine Hs.out.mono ?_; rintro e w' ⟨rfl, rfl⟩) | (go_at_call 21; refine H.out.mono ?_; rintro e w' ⟨rfl, rfl⟩))
        go_roundw
        case rel => exact ⟨k + 1, Ko, by go_num, by omega, by rw [Hls2.out]; exact Hl.out, Hk.out, Hb.out⟩
        case measure => simp [intOf]; omega
    · obtain rfl : k = s.n := by omega
      go_wp2_with (go_at_call 40; refine Hs.out.mono ?_; rintro e w' ⟨rfl, rfl⟩)
      go_ret
      exact ⟨_, Ko, rfl, Hl.out, Hk.out, Hb.out⟩
end
end Go.Proofs.Ytjndhjmbdhfclaa
