/- The bits of a word as a plain list: what masks, shifts and sums do to it. -/
import Derived.Test.YtjfeocoengheaaaPure
import Derived.Lib.EndianBits
namespace Go.Proofs.Ytjfeocoengheaaa
set_option maxRecDepth 100000

def bN : List Bool → Nat
  | [] => 0
  | b :: r => b.toNat + 2 * bN r

theorem bN_lt : ∀ l : List Bool, bN l < 2 ^ l.length
  | [] => by simp [bN]
  | b :: r => by
    have := bN_lt r
    have hb : b.toNat ≤ 1 := Bool.toNat_le b
    simp only [bN, List.length_cons, Nat.pow_succ]
    omega
theorem bN_append : ∀ a b : List Bool, bN (a ++ b) = bN a + 2 ^ a.length * bN b
  | [], b => by simp [bN]
  | x :: r, b => by
    have := bN_append r b
    simp only [bN, List.cons_append, List.length_cons, Nat.pow_succ, this]
    rw [Nat.mul_add, Nat.mul_comm (2 ^ r.length) 2, Nat.mul_assoc]
    omega
theorem bN_lt64 {l : List Bool} (h : l.length ≤ 64) : bN l < 18446744073709551616 :=
  Nat.lt_of_lt_of_le (bN_lt l) (Nat.pow_le_pow_right (n := 2) (by decide) h)
theorem bN_take (l : List Bool) (i : Nat) : bN l % 2 ^ i = bN (l.take i) := by
  by_cases h : i ≤ l.length
  · have e := bN_append (l.take i) (l.drop i)
    rw [List.take_append_drop] at e
    have hl : (l.take i).length = i := by rw [List.length_take]; omega
    have hlt := bN_lt (l.take i)
    rw [hl] at e hlt
    rw [e, Nat.add_mul_mod_self_left, Nat.mod_eq_of_lt hlt]
  · rw [List.take_of_length_le (by omega), Nat.mod_eq_of_lt (Nat.lt_of_lt_of_le (bN_lt l) (Nat.pow_le_pow_right (by decide) (by omega)))]
theorem bN_drop (l : List Bool) (i : Nat) : bN l / 2 ^ i = bN (l.drop i) := by
  by_cases h : i ≤ l.length
  · have e := bN_append (l.take i) (l.drop i)
    rw [List.take_append_drop] at e
    have hl : (l.take i).length = i := by rw [List.length_take]; omega
    have hlt := bN_lt (l.take i)
    rw [hl] at e hlt
    rw [e, Nat.add_mul_div_left _ _ (Nat.two_pow_pos i), Nat.div_eq_of_lt hlt, Nat.zero_add]
  · rw [List.drop_eq_nil_of_le (by omega), Nat.div_eq_of_lt (Nat.lt_of_lt_of_le (bN_lt l) (Nat.pow_le_pow_right (by decide) (by omega)))]
    rfl
theorem bN_head (l : List Bool) : bN l % 2 = (l.getD 0 false).toNat := by
  cases l with
  | nil => rfl
  | cons b r =>
    have hb : b.toNat ≤ 1 := Bool.toNat_le b
    show (b.toNat + 2 * bN r) % 2 = b.toNat
    omega
theorem bN_get (l : List Bool) (i : Nat) : bN l / 2 ^ i % 2 = (l.getD i false).toNat := by
  rw [bN_drop, bN_head]
  congr 1
  simp [List.getD]

section
variable {l a b : List Bool} {i n : Nat}
theorem cast_pow (i : Nat) : ((2 ^ i : Nat) : Int) = (2 : Int) ^ i := by simp
theorem bits_take (h : l.length ≤ 64) (hi : i ≤ 64) : bits .and .u64 (bN l : Int) ((2 : Int) ^ i - 1) = (bN (l.take i) : Int) := by
  rw [bits_mask .u64 64 (by decide) wraps_u64 i hi _ (by omega) (by have := bN_lt64 h; omega), ← cast_pow, ← bN_take]
  rfl
theorem bits_drop : (bN l : Int) / (2 : Int) ^ i = (bN (l.drop i) : Int) := by
  rw [← cast_pow, ← bN_drop]
  rfl
theorem bits_over (h : l.length ≤ 64) : bits .andNot .u64 (bN l : Int) ((2 : Int) ^ l.length - 1) = 0 := by
  have hlt := bN_lt l
  have hp : 0 < 2 ^ l.length := Nat.two_pow_pos _
  have hc : ((2 : Int) ^ l.length - 1) = ((2 ^ l.length - 1 : Nat) : Int) := by
    rw [Int.natCast_sub hp]; simp
  have h64 : 2 ^ l.length ≤ 2 ^ 64 := Nat.pow_le_pow_right (by decide) h
  have : (BitVec.ofInt 64 (bN l : Int) &&& ~~~ BitVec.ofInt 64 ((2 ^ l.length - 1 : Nat) : Int)) = 0 := by
    apply BitVec.eq_of_getLsbD_eq
    intro j hj
    rw [BitVec.getLsbD_and, BitVec.getLsbD_not]
    have e1 : (BitVec.ofInt 64 (bN l : Int)).getLsbD j = (bN l).testBit j := by
      rw [BitVec.ofInt_natCast, BitVec.getLsbD_ofNat]
      simp [hj]
    have e2 : (BitVec.ofInt 64 ((2 ^ l.length - 1 : Nat) : Int)).getLsbD j = decide (j < l.length) := by
      rw [BitVec.ofInt_natCast, BitVec.getLsbD_ofNat, Nat.testBit_two_pow_sub_one]
      simp [hj]
    rw [e1, e2]
    by_cases hjl : j < l.length
    · simp [hjl]
    · have : (bN l).testBit j = false := Nat.testBit_lt_two_pow (Nat.lt_of_lt_of_le hlt (Nat.pow_le_pow_right (by decide) (by omega)))
      simp [this]
  rw [hc]
  show IntKind.u64.wrap ((BitVec.ofInt 64 (bN l : Int) &&& ~~~ BitVec.ofInt 64 ((2 ^ l.length - 1 : Nat) : Int)).toNat : Int) = 0
  rw [this]
  rfl
theorem shl_lt (h : a.length + b.length ≤ 64) : 2 ^ a.length * bN b < 18446744073709551616 := by
  have h1 := bN_lt b
  have h2 : 2 ^ a.length * bN b < 2 ^ a.length * 2 ^ b.length := Nat.mul_lt_mul_of_pos_left h1 (Nat.two_pow_pos _)
  rw [← Nat.pow_add] at h2
  exact Nat.lt_of_lt_of_le h2 (Nat.pow_le_pow_right (n := 2) (by decide) h)
theorem bits_join_list (h : a.length + b.length ≤ 64) : bits .or .u64 (bN a : Int) (IntKind.u64.wrap ((bN b : Int) * (2 : Int) ^ a.length)) = (bN (a ++ b) : Int) := by
  have hlt := shl_lt h
  have e : (bN b : Int) * (2 : Int) ^ a.length = ((2 ^ a.length * bN b : Nat) : Int) := by
    rw [Int.natCast_mul, cast_pow, Int.mul_comm]
  rw [e, wraps_u64 _ (by omega) (by omega), (bits_nat .u64 64 (by decide) wraps_u64 (bN a) _ (by have := bN_lt64 (l := a) (by omega); omega) (by omega)).2, bN_append]
  congr 1
  rw [Nat.or_comm, ← Nat.two_pow_add_eq_or_of_lt (bN_lt a), Nat.add_comm]
theorem bits_set (h : a.length < 64) : bits .or .u64 (bN a : Int) (IntKind.u64.wrap ((1 : Int) * (2 : Int) ^ a.length)) = (bN (a ++ [true]) : Int) := by
  have := bits_join_list (a := a) (b := [true]) (by simp; omega)
  exact this
theorem bN_zero : bN (a ++ [false]) = bN a := by
  rw [bN_append]
  rfl
theorem bits_get (h : l.length ≤ 64) : bits .and .u64 ((bN l : Int) / (2 : Int) ^ i) 1 = ((l.getD i false).toNat : Int) := by
  have hd := bN_drop l i
  have hlt := bN_lt64 (l := l.drop i) (by rw [List.length_drop]; omega)
  rw [bits_drop]
  have := bits_mask .u64 64 (by decide) wraps_u64 1 (by decide) (bN (l.drop i) : Int) (by omega) (by omega)
  rw [show (2 : Int) ^ 1 - 1 = 1 by rfl] at this
  rw [this, ← bN_get l i, hd]
  rfl
end
end Go.Proofs.Ytjfeocoengheaaa
