/- How many bits of a word are 1: what the sums of neighbours come to. -/
import Derived.Test.YtdipgcbppggdhaaGpB
import Derived.Test.YtdipgcbppggdhaaGpA
import Derived.Test.YtdipgcbppggdhaaProg
import Derived.Lib.Hide
import Derived.Deep.QuietTactic
import Derived.BigQuiet
import Derived.StillTailTactics
import Derived.Deep.RegionHeld3
namespace Go.Proofs.Ytdipgcbppggdhaa
set_option maxRecDepth 100000

/-- A number of bytes, the least one first. -/
def bval : List Nat → Nat
  | [] => 0
  | b :: r => b + 256 * bval r
theorem bval_lt : ∀ l : List Nat, (∀ b ∈ l, b < 256) → bval l < 256 ^ l.length
  | [], _ => by simp [bval]
  | b :: r, h => by
    have hb := h b (by simp)
    have ih := bval_lt r fun x hx => h x (List.mem_cons_of_mem _ hx)
    simp only [bval, List.length_cons, Nat.pow_succ]
    omega
def p1 (b : Nat) : Nat := (b / 2 &&& 85) + (b &&& 85)
def p2 (b : Nat) : Nat := (b / 4 &&& 51) + (b &&& 51)
def p3 (b : Nat) : Nat := b / 16 + b % 16
theorem and_byte {b c y M : Nat} (hb : b < 256) (hc : c < 256) : (b + 256 * y) &&& (c + 256 * M) = (b &&& c) + 256 * (y &&& M) := by
  have h1 : ((b + 256 * y) &&& (c + 256 * M)) % 256 = b &&& c := by
    have := Nat.and_mod_two_pow (a := b + 256 * y) (b := c + 256 * M) (n := 8)
    rw [show (2 : Nat) ^ 8 = 256 by rfl] at this
    rw [this]
    congr 1 <;> omega
  have h2 : ((b + 256 * y) &&& (c + 256 * M)) / 256 = y &&& M := by
    have := Nat.and_div_two_pow (a := b + 256 * y) (b := c + 256 * M) (n := 8)
    rw [show (2 : Nat) ^ 8 = 256 by rfl] at this
    rw [this]
    congr 1 <;> omega
  omega
theorem low1 : ∀ b : Fin 256, ∀ t : Fin 2, (b.val / 2 + 128 * t.val) &&& 85 = b.val / 2 &&& 85 := by decide +kernel
theorem low2 : ∀ b : Fin 256, ∀ t : Fin 4, (b.val / 4 + 64 * t.val) &&& 51 = b.val / 4 &&& 51 := by decide +kernel
theorem low3 : ∀ b : Fin 256, ∀ t : Fin 5, b.val / 16 ≤ 4 → b.val % 16 ≤ 4 → (b.val / 16 + b.val + 16 * t.val) &&& 15 = p3 b.val := by decide +kernel
theorem p1_lt : ∀ b : Fin 256, p1 b.val < 256 := by decide +kernel
theorem p2_lt : ∀ b : Fin 256, p2 (p1 b.val) < 256 ∧ p2 (p1 b.val) / 16 ≤ 4 ∧ p2 (p1 b.val) % 16 ≤ 4 := by decide +kernel
theorem shift1 {b y M : Nat} (hb : b < 256) : (b + 256 * y) / 2 &&& (85 + 256 * M) = (b / 2 &&& 85) + 256 * (y / 2 &&& M) := by
  rw [show (b + 256 * y) / 2 = (b / 2 + 128 * (y % 2)) + 256 * (y / 2) by omega, and_byte (by omega) (by omega)]
  rw [low1 ⟨b, hb⟩ ⟨y % 2, by omega⟩]
theorem shift2 {b y M : Nat} (hb : b < 256) : (b + 256 * y) / 4 &&& (51 + 256 * M) = (b / 4 &&& 51) + 256 * (y / 4 &&& M) := by
  rw [show (b + 256 * y) / 4 = (b / 4 + 64 * (y % 4)) + 256 * (y / 4) by omega, and_byte (by omega) (by omega)]
  rw [low2 ⟨b, hb⟩ ⟨y % 4, by omega⟩]
theorem step1 : ∀ l : List Nat, (∀ b ∈ l, b < 256) → (bval l / 2 &&& bval (List.replicate l.length 85)) + (bval l &&& bval (List.replicate l.length 85)) = bval (l.map p1)
  | [], _ => by simp [bval]
  | b :: r, h => by
    have hb := h b (by simp)
    have ih := step1 r fun x hx => h x (List.mem_cons_of_mem _ hx)
    simp only [List.length_cons, List.replicate_succ, List.map_cons, bval]
    rw [shift1 hb, and_byte hb (by omega), p1]
    omega
theorem step2 : ∀ l : List Nat, (∀ b ∈ l, b < 256) → (bval l / 4 &&& bval (List.replicate l.length 51)) + (bval l &&& bval (List.replicate l.length 51)) = bval (l.map p2)
  | [], _ => by simp [bval]
  | b :: r, h => by
    have hb := h b (by simp)
    have ih := step2 r fun x hx => h x (List.mem_cons_of_mem _ hx)
    simp only [List.length_cons, List.replicate_succ, List.map_cons, bval]
    rw [shift2 hb, and_byte hb (by omega), p2]
    omega
theorem step3 : ∀ l : List Nat, (∀ b ∈ l, b < 256 ∧ b / 16 ≤ 4 ∧ b % 16 ≤ 4) → (bval l / 16 + bval l &&& bval (List.replicate l.length 15)) = bval (l.map p3)
  | [], _ => by simp [bval]
  | b :: r, h => by
    obtain ⟨hb, h1, h2⟩ := h b (by simp)
    have ih := step3 r fun x hx => h x (List.mem_cons_of_mem _ hx)
    have h3 : bval r % 16 ≤ 4 := by
      cases r with
      | nil => show 0 % 16 ≤ 4; omega
      | cons c q =>
        have := h c (by simp)
        show (c + 256 * bval q) % 16 ≤ 4
        omega
    simp only [List.length_cons, List.replicate_succ, List.map_cons, bval]
    have e3 : (b / 16 + b + 16 * (bval r % 16)) &&& 15 = p3 b := low3 ⟨b, hb⟩ ⟨bval r % 16, by omega⟩ h1 h2
    rw [show (b + 256 * bval r) / 16 + (b + 256 * bval r) = (b / 16 + b + 16 * (bval r % 16)) + 256 * (bval r / 16 + bval r) by omega, and_byte (by omega) (by omega), e3]
    omega
/-- How many of eight bits are 1. -/
def pc8 (b : Nat) : Nat := p3 (p2 (p1 b))
theorem pc8_bits : ∀ a b c d e f g h : Bool, pc8 (bN [a, b, c, d, e, f, g, h]) = [a, b, c, d, e, f, g, h].count true := by decide +kernel
theorem pc8_le : ∀ b : Fin 256, pc8 b.val ≤ 8 := by decide +kernel
/-- The bytes of a list of bits. -/
def bytes : Nat → List Bool → List Nat
  | 0, _ => []
  | n + 1, l => bN (l.take 8) :: bytes n (l.drop 8)
theorem bytes_len : ∀ (n : Nat) (l : List Bool), (bytes n l).length = n
  | 0, _ => rfl
  | n + 1, l => by simp [bytes, bytes_len n]
theorem bytes_lt : ∀ (n : Nat) (l : List Bool), ∀ b ∈ bytes n l, b < 256
  | 0, _, b, hb => by cases hb
  | n + 1, l, b, hb => by
    simp only [bytes, List.mem_cons] at hb
    rcases hb with rfl | hb
    · have h8 : (l.take 8).length ≤ 8 := by rw [List.length_take]; exact Nat.min_le_left _ _
      exact Nat.lt_of_lt_of_le (bN_lt _) (Nat.pow_le_pow_right (n := 2) (by decide) h8)
    · exact bytes_lt n _ b hb
theorem bytes_val : ∀ (n : Nat) (l : List Bool), l.length = 8 * n → bval (bytes n l) = bN l
  | 0, l, h => by
    have : l = [] := List.eq_nil_of_length_eq_zero (by omega)
    subst this; rfl
  | n + 1, l, h => by
    have ih := bytes_val n (l.drop 8) (by rw [List.length_drop]; omega)
    have e := bN_append (l.take 8) (l.drop 8)
    rw [List.take_append_drop, List.length_take, show min 8 l.length = 8 by omega] at e
    simp only [bytes, bval]
    rw [ih, e]
theorem bytes_pop : ∀ (n : Nat) (l : List Bool), l.length = 8 * n → ((bytes n l).map pc8).sum = l.count true
  | 0, l, h => by
    have : l = [] := List.eq_nil_of_length_eq_zero (by omega)
    subst this; rfl
  | n + 1, l, h => by
    have ih := bytes_pop n (l.drop 8) (by rw [List.length_drop]; omega)
    have e : pc8 (bN (l.take 8)) = (l.take 8).count true := by
      have hl : (l.take 8).length = 8 := by rw [List.length_take]; omega
      generalize l.take 8 = q at hl
      match q, hl with
      | [a, b, c, d, e, f, g, h], _ => exact pc8_bits a b c d e f g h
    simp only [bytes, List.map_cons, List.sum_cons]
    rw [ih, e, ← List.count_append, List.take_append_drop]
theorem bN_pad (l : List Bool) (k : Nat) : bN (l ++ List.replicate k false) = bN l := by
  have : bN (List.replicate k false) = 0 := by
    induction k with
    | zero => rfl
    | succ k ih => simp only [List.replicate_succ, bN, ih]; rfl
  rw [bN_append, this]
  omega
theorem eight {z : List Nat} (h : z.length = 8) : ∃ a b c d e f g i, z = [a, b, c, d, e, f, g, i] := by
  match z, h with
  | [a, b, c, d, e, f, g, i], _ => exact ⟨a, b, c, d, e, f, g, i, rfl⟩
/-- The word behind the three steps. -/
def swar3 (x : Nat) : Nat :=
  let x1 := (x / 2 &&& 6148914691236517205) + (x &&& 6148914691236517205)
  let x2 := (x1 / 4 &&& 3689348814741910323) + (x1 &&& 3689348814741910323)
  (x2 / 16 + x2) &&& 1085102592571150095
theorem swar3_is {l : List Bool} (h : l.length ≤ 64) : ∃ q0 q1 q2 q3 q4 q5 q6 q7 : Nat, q0 ≤ 8 ∧ q1 ≤ 8 ∧ q2 ≤ 8 ∧ q3 ≤ 8 ∧ q4 ≤ 8 ∧ q5 ≤ 8 ∧ q6 ≤ 8 ∧ q7 ≤ 8 ∧
    swar3 (bN l) = q0 + 256 * (q1 + 256 * (q2 + 256 * (q3 + 256 * (q4 + 256 * (q5 + 256 * (q6 + 256 * q7)))))) ∧ q0 + q1 + q2 + q3 + q4 + q5 + q6 + q7 = l.count true ∧
    (bN l / 2 &&& 6148914691236517205) + (bN l &&& 6148914691236517205) < 18446744073709551616 := by
  obtain ⟨k, hk⟩ : ∃ k, l.length + k = 64 := ⟨64 - l.length, by omega⟩
  have e1 : bN l = bval (bytes 8 (l ++ List.replicate k false)) := by rw [bytes_val 8 _ (by simp; omega), bN_pad]
  have e2 : ((bytes 8 (l ++ List.replicate k false)).map pc8).sum = l.count true := by
    rw [bytes_pop 8 _ (by simp; omega), List.count_append]
    simp [List.count_replicate]
  have hlen := bytes_len 8 (l ++ List.replicate k false)
  have hlt := bytes_lt 8 (l ++ List.replicate k false)
  rw [e1]
  generalize bytes 8 (l ++ List.replicate k false) = q at *
  have m1 : bval (List.replicate q.length 85) = 6148914691236517205 := by rw [hlen]; decide
  have m2 : bval (List.replicate (q.map p1).length 51) = 3689348814741910323 := by rw [List.length_map, hlen]; decide
  have m3 : bval (List.replicate ((q.map p1).map p2).length 15) = 1085102592571150095 := by rw [List.length_map, List.length_map, hlen]; decide
  have s1 := step1 q hlt
  have l1 : ∀ b ∈ q.map p1, b < 256 := fun b hb => by
    obtain ⟨a, ha, rfl⟩ := List.mem_map.1 hb
    exact p1_lt ⟨a, hlt a ha⟩
  have s2 := step2 (q.map p1) l1
  have l2 : ∀ b ∈ (q.map p1).map p2, b < 256 ∧ b / 16 ≤ 4 ∧ b % 16 ≤ 4 := fun b hb => by
    obtain ⟨c, hc, rfl⟩ := List.mem_map.1 hb
    obtain ⟨a, ha, rfl⟩ := List.mem_map.1 hc
    exact p2_lt ⟨a, hlt a ha⟩
  have s3 := step3 ((q.map p1).map p2) l2
  rw [m1] at s1
  rw [m2] at s2
  rw [m3] at s3
  have e3 : swar3 (bval q) = bval (q.map pc8) := by
    unfold swar3
    simp only [s1]
    simp only [s2]
    rw [s3, List.map_map, List.map_map]
    rfl
  have hle : ∀ b ∈ q.map pc8, b ≤ 8 := fun b hb => by
    obtain ⟨a, ha, rfl⟩ := List.mem_map.1 hb
    exact pc8_le ⟨a, hlt a ha⟩
  have hl8 : (q.map pc8).length = 8 := by rw [List.length_map, hlen]
  have hs1 : bval (q.map p1) < 18446744073709551616 := by
    have hl8' : (q.map p1).length = 8 := by rw [List.length_map, hlen]
    have hlt1 := bval_lt _ l1
    rw [hl8'] at hlt1
    exact hlt1
  rw [s1, e3]
  clear s1 s2 s3 m1 m2 m3 l1 l2 hlen hlt
  generalize bval (q.map p1) = big at *
  generalize q.map pc8 = z at *
  obtain ⟨q0, q1, q2, q3, q4, q5, q6, q7, rfl⟩ := eight hl8
  have v : bval [q0, q1, q2, q3, q4, q5, q6, q7] = q0 + 256 * (q1 + 256 * (q2 + 256 * (q3 + 256 * (q4 + 256 * (q5 + 256 * (q6 + 256 * q7)))))) := by simp only [bval, Nat.mul_zero, Nat.add_zero]
  rw [v]
  clear v e3 e1
  have y0 := hle q0 (by simp)
  have y1 := hle q1 (by simp)
  have y2 := hle q2 (by simp)
  have y3 := hle q3 (by simp)
  have y4 := hle q4 (by simp)
  have y5 := hle q5 (by simp)
  have y6 := hle q6 (by simp)
  have y7 := hle q7 (by simp)
  clear hle hl8
  exact ⟨q0, q1, q2, q3, q4, q5, q6, q7, y0, y1, y2, y3, y4, y5, y6, y7, rfl, by rw [← e2]; simp only [List.sum_cons, List.sum_nil]; omega, hs1⟩
/-- What math/bits reckons. -/
def swI (x : Int) : Int :=
  let a := IntKind.u64.wrap (bits .and .u64 (x / 2) 6148914691236517205 + bits .and .u64 x 6148914691236517205)
  let b := IntKind.u64.wrap (bits .and .u64 (a / 4) 3689348814741910323 + bits .and .u64 a 3689348814741910323)
  let c := bits .and .u64 (IntKind.u64.wrap (b / 16 + b)) 1085102592571150095
  let d := IntKind.u64.wrap (c + c / 256)
  let e := IntKind.u64.wrap (d + d / 65536)
  let f := IntKind.u64.wrap (e + e / 4294967296)
  bits .and .i64 (IntKind.i64.wrap f) 127
theorem and_nat {a b : Nat} (ha : a < 18446744073709551616) (hb : b < 18446744073709551616) : bits .and .u64 (a : Int) (b : Int) = ((a &&& b : Nat) : Int) := (bits_nat .u64 64 (by decide) wraps_u64 a b ha hb).1
theorem wrap_nat {a : Nat} (ha : a < 18446744073709551616) : IntKind.u64.wrap (a : Int) = (a : Int) := wraps_u64 _ (by omega) (by omega)
theorem swI_is {l : List Bool} (h : l.length ≤ 64) : swI (bN l) = ((l.count true : Nat) : Int) := by
  obtain ⟨q0, q1, q2, q3, q4, q5, q6, q7, h0, h1, h2, h3, h4, h5, h6, h7, hv, hs, hlt⟩ := swar3_is h
  have hx := bN_lt64 h
  generalize bN l = x at *
  unfold swar3 at hv
  dsimp only at hv
  generalize hA : (x / 2 &&& 6148914691236517205) + (x &&& 6148914691236517205) = A at *
  generalize hB : (A / 4 &&& 3689348814741910323) + (A &&& 3689348814741910323) = B at *
  have b1 : A / 4 &&& 3689348814741910323 ≤ 3689348814741910323 := Nat.and_le_right
  have b2 : A &&& 3689348814741910323 ≤ 3689348814741910323 := Nat.and_le_right
  have a1 : IntKind.u64.wrap (bits .and .u64 ((x : Int) / 2) 6148914691236517205 + bits .and .u64 (x : Int) 6148914691236517205) = (A : Int) := by
    have e1 : bits .and .u64 ((x : Int) / 2) 6148914691236517205 = ((x / 2 &&& 6148914691236517205 : Nat) : Int) := and_nat (a := x / 2) (b := 6148914691236517205) (by omega) (by decide)
    have e2 : bits .and .u64 (x : Int) 6148914691236517205 = ((x &&& 6148914691236517205 : Nat) : Int) := and_nat (a := x) (b := 6148914691236517205) hx (by decide)
    rw [e1, e2, ← Int.natCast_add, hA]
    exact wrap_nat hlt
  have a2 : IntKind.u64.wrap (bits .and .u64 ((A : Int) / 4) 3689348814741910323 + bits .and .u64 (A : Int) 3689348814741910323) = (B : Int) := by
    have e1 : bits .and .u64 ((A : Int) / 4) 3689348814741910323 = ((A / 4 &&& 3689348814741910323 : Nat) : Int) := and_nat (a := A / 4) (b := 3689348814741910323) (by omega) (by decide)
    have e2 : bits .and .u64 (A : Int) 3689348814741910323 = ((A &&& 3689348814741910323 : Nat) : Int) := and_nat (a := A) (b := 3689348814741910323) hlt (by decide)
    rw [e1, e2, ← Int.natCast_add, hB]
    exact wrap_nat (by omega)
  have a3 : bits .and .u64 (IntKind.u64.wrap ((B : Int) / 16 + B)) 1085102592571150095 = ((B / 16 + B &&& 1085102592571150095 : Nat) : Int) := by
    have e1 : IntKind.u64.wrap ((B : Int) / 16 + B) = ((B / 16 + B : Nat) : Int) := wrap_nat (a := B / 16 + B) (by omega)
    rw [e1]
    exact and_nat (b := 1085102592571150095) (by omega) (by decide)
  unfold swI
  simp only [a1]
  simp only [a2]
  simp only [a3]
  rw [hv]
  clear a1 a2 a3 b1 b2 hA hB hv hlt hx
  have v1 : ∀ c : Nat, c = q0 + 256 * (q1 + 256 * (q2 + 256 * (q3 + 256 * (q4 + 256 * (q5 + 256 * (q6 + 256 * q7)))))) → IntKind.u64.wrap ((c : Int) + (c : Int) / 256) = ((q0 + q1) + 256 * ((q1 + q2) + 256 * ((q2 + q3) + 256 * ((q3 + q4) + 256 * ((q4 + q5) + 256 * ((q5 + q6) + 256 * ((q6 + q7) + 256 * q7)))))) : Nat) := fun c hc => by
    have : c / 256 = q1 + 256 * (q2 + 256 * (q3 + 256 * (q4 + 256 * (q5 + 256 * (q6 + 256 * q7))))) := by omega
    rw [show (c : Int) + (c : Int) / 256 = ((c + c / 256 : Nat) : Int) by rfl, wrap_nat (by omega)]
    congr 1
    omega
  rw [v1 _ rfl]
  clear v1
  have v2 : ∀ c : Nat, c = (q0 + q1) + 256 * ((q1 + q2) + 256 * ((q2 + q3) + 256 * ((q3 + q4) + 256 * ((q4 + q5) + 256 * ((q5 + q6) + 256 * ((q6 + q7) + 256 * q7)))))) → IntKind.u64.wrap ((c : Int) + (c : Int) / 65536) = ((q0 + q1 + q2 + q3) + 256 * ((q1 + q2 + q3 + q4) + 256 * ((q2 + q3 + q4 + q5) + 256 * ((q3 + q4 + q5 + q6) + 256 * ((q4 + q5 + q6 + q7) + 256 * ((q5 + q6 + q7) + 256 * ((q6 + q7) + 256 * q7)))))) : Nat) := fun c hc => by
    have : c / 65536 = (q2 + q3) + 256 * ((q3 + q4) + 256 * ((q4 + q5) + 256 * ((q5 + q6) + 256 * ((q6 + q7) + 256 * q7)))) := by omega
    rw [show (c : Int) + (c : Int) / 65536 = ((c + c / 65536 : Nat) : Int) by rfl, wrap_nat (by omega)]
    congr 1
    omega
  rw [v2 _ rfl]
  clear v2
  have v3 : ∀ c : Nat, c = (q0 + q1 + q2 + q3) + 256 * ((q1 + q2 + q3 + q4) + 256 * ((q2 + q3 + q4 + q5) + 256 * ((q3 + q4 + q5 + q6) + 256 * ((q4 + q5 + q6 + q7) + 256 * ((q5 + q6 + q7) + 256 * ((q6 + q7) + 256 * q7)))))) → ∃ m : Nat, IntKind.u64.wrap ((c : Int) + (c : Int) / 4294967296) = ((q0 + q1 + q2 + q3 + q4 + q5 + q6 + q7 + 256 * m : Nat) : Int) ∧ m < 36028797018963968 := fun c hc => by
    have : c / 4294967296 = (q4 + q5 + q6 + q7) + 256 * ((q5 + q6 + q7) + 256 * ((q6 + q7) + 256 * q7)) := by omega
    rw [show (c : Int) + (c : Int) / 4294967296 = ((c + c / 4294967296 : Nat) : Int) by rfl, wrap_nat (by omega)]
    refine ⟨(c + c / 4294967296) / 256, ?_, by omega⟩
    congr 1
    omega
  obtain ⟨m, e3, hm⟩ := v3 _ rfl
  rw [e3]
  clear v3 e3
  have e4 : IntKind.i64.wrap ((q0 + q1 + q2 + q3 + q4 + q5 + q6 + q7 + 256 * m : Nat) : Int) = ((q0 + q1 + q2 + q3 + q4 + q5 + q6 + q7 + 256 * m : Nat) : Int) := by
    rw [IntKind.wrap_i64]; omega
  rw [e4]
  have e5 := bits_mask .i64 63 (by decide) (fun n h0 h1 => by rw [IntKind.wrap_i64]; omega) 7 (by decide) ((q0 + q1 + q2 + q3 + q4 + q5 + q6 + q7 + 256 * m : Nat) : Int) (by omega) (by omega)
  rw [show (2 : Int) ^ 7 - 1 = 127 by rfl] at e5
  rw [e5, show (2 : Int) ^ 7 = 128 by rfl]
  omega
end Go.Proofs.Ytdipgcbppggdhaa
namespace Go.Proofs.Ytdipgcbppggdhaa
set_option maxRecDepth 100000
open Go.RowKit
theorem below_drewN {B : Nat} {a w : World} (h : Below B a w) (n : Nat) : Below B a (w.drewN n) := ⟨h.os, h.tape, h.output, h.size, h.block⟩

theorem pow_lt64 {n : Nat} (h : n ≤ 64) : (2 : Int) ^ n ≤ 18446744073709551616 := by
  have := Nat.pow_le_pow_right (n := 2) (by decide) h
  rw [← cast_pow]
  omega
theorem pow_pos' (n : Nat) : (1 : Int) ≤ (2 : Int) ^ n := by
  have := Nat.two_pow_pos n
  rw [← cast_pow]
  omega
theorem pow_lt63 {n : Nat} (h : n < 64) : (2 : Int) ^ n ≤ 9223372036854775808 := by
  have := Nat.pow_le_pow_right (n := 2) (by decide) (show n ≤ 63 by omega)
  rw [← cast_pow]
  omega
set_option maxHeartbeats 1000000 in
theorem first_is (n : Nat) (w : World) (h : n ≤ 64) :
    Calls Try.prog 76 #[.int .i64 n] w fun e w' => e = .returned (.int .u64 ((2 : Int) ^ n - 1)) ∧ w = w' := by
  by_cases c : n = 64
  · subst c
    go_enter Try.func76, Try.ntmps76
    go_wp2_with fail
    go_ret
    exact ⟨rfl, rfl⟩
  · have h1 : n < 64 := by omega
    have h2 := Lib.hid (pow_lt63 h1)
    have h3 := Lib.hid (pow_pos' n)
    clear c h
    go_enter Try.func76, Try.ntmps76
    go_wp2_with fail
    go_ret
    refine ⟨?_, rfl⟩
    show Ending.returned (.int .u64 (IntKind.u64.wrap (IntKind.u64.wrap ((2 : Int) ^ n) - 1))) = _
    have h2 := h2.out
    have h3 := h3.out
    rw [wraps_u64 ((2 : Int) ^ n) (by omega) (by omega), wraps_u64 _ (by omega) (by omega)]
set_option maxHeartbeats 1000000 in
theorem right_is (l : List Bool) (w : World) (h : l.length ≤ 64) :
    Calls Try.prog 60 #[.agg #[.int .u64 (bN l), .int .i64 l.length]] w fun e w' => e = .returned (.bool true) ∧ Below w.heap.size w w' := by
  have hb := Lib.hid (bits_over h)
  generalize hn : l.length = n at *
  generalize hx : (bN l : Int) = x at *
  have H := fun w => Lib.hid (first_is n w h)
  have hz : n ≤ 64 := h
  have hd : decide ((n : Int) ≤ 64) = true := decide_eq_true (by omega)
  have H0 := Lib.hid hb
  clear hn hx h
  go_enter Try.func60, Try.ntmps60
  go_wp2_with fail
  go_quiet ((go_at_call 76; exact Calls.quiet_of_same ((H _).out.mono fun e w' q => ⟨q.1, q.2.symm⟩)))
  go_wp2_with fail
  go_ret
  refine ⟨?_, below_drewN ((Below.refl w.heap.size w).alloc (Nat.le_refl _) _) _⟩
  show Ending.returned (.bool (bits BinOp.andNot IntKind.u64 x (2 ^ n - 1) == 0)) = _
  rw [H0.out]
  rfl
set_option maxHeartbeats 1000000 in
theorem pop_is (l : List Bool) (w : World) (h : l.length ≤ 64) :
    Calls Try.prog 75 #[.int .u64 (bN l)] w fun e w' => e = .returned (.int .i64 (l.count true)) ∧ w = w' := by
  have Hs := Lib.hid (swI_is h)
  have x0 : 0 ≤ (bN l : Int) := by omega
  have x1 : (bN l : Int) < 18446744073709551616 := by have := bN_lt64 h; omega
  clear h
  generalize (bN l : Int) = x at *
  go_enter Try.func75, Try.ntmps75
  go_wp2_with fail
  go_ret
  refine ⟨?_, rfl⟩
  rw [← IntWalk.i64_left]
  show Ending.returned (.int .i64 (swI x)) = _
  rw [Hs.out]
end Go.Proofs.Ytdipgcbppggdhaa
namespace Go.Proofs.Ytdipgcbppggdhaa
set_option maxRecDepth 100000
open Go.RowKit

set_option maxHeartbeats 1000000 in
theorem lget_is (l : List Bool) (i : Nat) (w : World) (h : l.length ≤ 64) (hi : i < l.length) :
    Calls Try.prog 47 #[.agg #[.int .u64 (bN l), .int .i64 l.length], .int .i64 i] w fun e w' => e = .returned (.bool (l.getD i false)) ∧ Below w.heap.size w w' := by
  have hv := Lib.hid (bits_get (i := i) h)
  have HR := fun w => Lib.hid (right_is l w h)
  generalize hg : l.getD i false = g at *
  generalize hn : l.length = n at *
  generalize hx : (bN l : Int) = x at *
  have hd : decide ((i : Int) < (n : Int)) = true := decide_eq_true (by omega)
  have hs : (i : Int) ≤ 64 := by omega
  clear hn hx h hg
  go_enter Try.func47, Try.ntmps47
  go_wp2_with fail
  have hx0 := heap_alloc_new w (.cells #[.int .u64 x, .int .i64 n] 71)
  refine (HR _).out.mono ?_
  rintro e w1 ⟨rfl, hb⟩
  have hx1 := (hb.block _ (by simp)).trans hx0
  have c0 : w1.cell? ⟨w.heap.size, 0, none⟩ = some (.int .u64 x) := cell_of_row _ _ _ _ _ _ hx1
  have c1 : w1.cell? ⟨w.heap.size, 1, none⟩ = some (.int .i64 n) := cell_of_row _ _ _ _ _ _ hx1
  have hfin := Lib.hid (((Below.refl w.heap.size w).alloc (Nat.le_refl _) (.cells #[.int .u64 x, .int .i64 n] 71)).trans (hb.mono (by simp)))
  clear hx1 hx0 hb
  go_wp2_with fail
  go_ret
  refine ⟨?_, hfin.out⟩
  show Ending.returned (.bool (bits BinOp.and IntKind.u64 (x / 2 ^ i) 1 == 1)) = _
  rw [hv.out]
  cases g <;> rfl
set_option maxHeartbeats 2000000 in
theorem lrank_is (l : List Bool) (i : Nat) (w : World) (h : l.length ≤ 64) (hi : i ≤ l.length) :
    Calls Try.prog 56 #[.agg #[.int .u64 (bN l), .int .i64 l.length], .int .i64 i] w fun e w' => e = .returned (.int .i64 ((l.take i).count true)) ∧ Below w.heap.size w w' := by
  have hv := bits_take (i := i) h (by omega)
  have HR := fun w => Lib.hid (right_is l w h)
  have HF := fun w => Lib.hid (first_is i w (by omega))
  have HP := fun w => Lib.hid (pop_is (l.take i) w (by rw [List.length_take]; omega))
  rw [← hv] at HP
  clear hv
  generalize hn : l.length = n at *
  generalize hx : (bN l : Int) = x at *
  generalize hc : (l.take i).count true = c at *
  have hm : min (i : Int) (n : Int) = i := by omega
  have hM : max (i : Int) 0 = i := by omega
  have hm' := Lib.hid hm
  have hM' := Lib.hid hM
  clear hn hx h hc hm hM
  go_enter Try.func56, Try.ntmps56
  go_wp2_with fail
  have hx0 := heap_alloc_new w (.cells #[.int .u64 x, .int .i64 n] 71)
  refine (HR _).out.mono ?_
  rintro e w1 ⟨rfl, hb⟩
  have hx1 := (hb.block _ (by simp)).trans hx0
  have c0 : w1.cell? ⟨w.heap.size, 0, none⟩ = some (.int .u64 x) := cell_of_row _ _ _ _ _ _ hx1
  have c1 : w1.cell? ⟨w.heap.size, 1, none⟩ = some (.int .i64 n) := cell_of_row _ _ _ _ _ _ hx1
  have hfin := Lib.hid (((Below.refl w.heap.size w).alloc (Nat.le_refl _) (.cells #[.int .u64 x, .int .i64 n] 71)).trans (hb.mono (by simp)))
  clear hx1 hx0 hb HR
  go_wp2_with fail
  go_quiet ((first | (go_at_call 76; exact Calls.quiet_of_same ((HF _).out.mono fun e w' q => ⟨q.1, q.2.symm⟩)) | (go_at_call 75; exact Calls.quiet_of_same ((HP _).out.mono fun e w' q => ⟨q.1, q.2.symm⟩))))
  go_wp2_with fail
  go_ret
  exact ⟨rfl, below_drewN hfin.out _⟩
end Go.Proofs.Ytdipgcbppggdhaa
namespace Go.Proofs.Ytdipgcbppggdhaa
set_option maxRecDepth 100000
open Go.RowKit

theorem al3_0 (w : World) (a b c : Obj) : (((w.alloc a).alloc b).alloc c).heap[w.heap.size]? = some a := by
  rw [Below.heap_alloc _ _ _ (by simp; omega), Below.heap_alloc _ _ _ (by simp)]; exact heap_alloc_new _ _
theorem al3_1 (w : World) (a b c : Obj) : (((w.alloc a).alloc b).alloc c).heap[w.heap.size + 1]? = some b := by
  rw [Below.heap_alloc _ _ _ (by simp)]
  have := heap_alloc_new (w.alloc a) b
  simpa using this
theorem al3_2 (w : World) (a b c : Obj) : (((w.alloc a).alloc b).alloc c).heap[w.heap.size + 1 + 1]? = some c := by
  have := heap_alloc_new ((w.alloc a).alloc b) c
  simpa using this
theorem keep2 {W : World} {b0 b1 : Nat} {x n : Value} (h : W.drew.cell? ⟨b0, 0, none⟩ = some x ∧ W.drew.cell? ⟨b0, 1, none⟩ = some n) (ne : b0 ≠ b1) (a b : Value) :
    ((W.setCell ⟨b1, 0, none⟩ a).setCell ⟨b1, 1, none⟩ b).drew.cell? ⟨b0, 0, none⟩ = some x ∧ ((W.setCell ⟨b1, 0, none⟩ a).setCell ⟨b1, 1, none⟩ b).drew.cell? ⟨b0, 1, none⟩ = some n := by
  have e : ((W.setCell ⟨b1, 0, none⟩ a).setCell ⟨b1, 1, none⟩ b).heap[b0]? = W.heap[b0]? := (heap_setCell_other _ _ _ _ ne).trans (heap_setCell_other _ _ _ _ ne)
  exact ⟨(World.cell?_of_block e).trans h.1, (World.cell?_of_block e).trans h.2⟩
set_option maxHeartbeats 2000000 in
theorem lsplit_is (l : List Bool) (i : Nat) (w : World) (h : l.length ≤ 64) (hi : i ≤ l.length) :
    Calls Try.prog 79 #[.agg #[.int .u64 (bN l), .int .i64 l.length], .int .i64 i] w fun e w' =>
      e = .returned (.tuple #[.agg #[.int .u64 (bN (l.take i)), .int .i64 i], .agg #[.int .u64 (bN (l.drop i)), .int .i64 (l.length - i : Nat)]]) ∧ Below w.heap.size w w' := by
  have hv := Lib.hid (bits_take (i := i) h (by omega))
  have hd := Lib.hid (bits_drop (l := l) (i := i))
  have HR := fun w => Lib.hid (right_is l w h)
  have HF := fun w => Lib.hid (first_is i w (by omega))
  have hw : IntKind.i64.wrap ((l.length : Int) - (i : Int)) = ((l.length - i : Nat) : Int) := by
    rw [IntWalk.i64_left, IntWalk.wrap64_in _ (by omega)]; omega
  generalize hn : l.length = n at *
  generalize hx : (bN l : Int) = x at *
  generalize hy : (bN (l.take i) : Int) = y at *
  generalize hz : (bN (l.drop i) : Int) = z at *
  have hs : (i : Int) ≤ 64 := by omega
  have hnm : n - i = n - i := rfl
  generalize hm : n - i = m at *
  have HW := Lib.hid hw
  have Hm := Lib.hid hm
  clear hn hx h hy hz hw hm hnm
  go_enter Try.func79, Try.ntmps79
  go_wp2_with fail
  have hx0 := heap_alloc_new w (.cells #[.int .u64 x, .int .i64 n] 71)
  refine (HR _).out.mono ?_
  rintro e w1 ⟨rfl, hb⟩
  have hx1 := (hb.block w.heap.size (by simp; omega)).trans (show (((w.alloc (.cells #[.int .u64 x, .int .i64 n] 71)).alloc (.cells #[.int .u64 0, .int .i64 0] 71)).alloc (.cells #[.int .u64 0, .int .i64 0] 71)).heap[w.heap.size]? = some (.cells #[.int .u64 x, .int .i64 n] 71) from al3_0 w _ _ _)
  have hy1 := (hb.block (w.heap.size + 1) (by simp)).trans (al3_1 w (.cells #[.int .u64 x, .int .i64 n] 71) (.cells #[.int .u64 0, .int .i64 0] 71) (.cells #[.int .u64 0, .int .i64 0] 71))
  have hz1 := (hb.block (w.heap.size + 1 + 1) (by simp)).trans (al3_2 w (.cells #[.int .u64 x, .int .i64 n] 71) (.cells #[.int .u64 0, .int .i64 0] 71) (.cells #[.int .u64 0, .int .i64 0] 71))
  have hfin := Lib.hid (((((Below.refl w.heap.size w).alloc (Nat.le_refl _) (.cells #[.int .u64 x, .int .i64 n] 71)).alloc (by simp) (.cells #[.int .u64 0, .int .i64 0] 71)).alloc (by simp; omega) (.cells #[.int .u64 0, .int .i64 0] 71)).trans (hb.mono (by simp; omega)))
  have q1 : w.heap.size ≠ w.heap.size + 1 := by omega
  have q2 : w.heap.size ≠ w.heap.size + 1 + 1 := by omega
  have q3 : w.heap.size + 1 ≠ w.heap.size + 1 + 1 := by omega
  have q4 : w.heap.size ≤ w.heap.size + 1 := by omega
  have q5 : w.heap.size ≤ w.heap.size + 1 + 1 := by omega
  clear hb hx0
  generalize hg1 : w.heap.size + 1 + 1 = b2 at *
  generalize hg2 : w.heap.size + 1 = b1 at *
  generalize hg3 : w.heap.size = b0 at *
  clear hg1 hg2
  have c0 : w1.cell? ⟨b0, 0, none⟩ = some (.int .u64 x) := cell_of_row _ _ _ _ _ _ hx1
  have c1 : w1.cell? ⟨b0, 1, none⟩ = some (.int .i64 n) := cell_of_row _ _ _ _ _ _ hx1
  have d0 : w1.cell? ⟨b1, 0, none⟩ = some (.int .u64 0) := cell_of_row _ _ _ _ _ _ hy1
  have d1 : w1.cell? ⟨b1, 1, none⟩ = some (.int .i64 0) := cell_of_row _ _ _ _ _ _ hy1
  have df : ∀ j, w1.frozen? ⟨b1, j, none⟩ = false := fun j => frozen_of_row _ _ _ _ _ hy1
  have e0 : w1.cell? ⟨b2, 0, none⟩ = some (.int .u64 0) := cell_of_row _ _ _ _ _ _ hz1
  have e1 : w1.cell? ⟨b2, 1, none⟩ = some (.int .i64 0) := cell_of_row _ _ _ _ _ _ hz1
  have ef : ∀ j, w1.frozen? ⟨b2, j, none⟩ = false := fun j => frozen_of_row _ _ _ _ _ hz1
  have hM : max (i : Int) 0 = i := by omega
  have hm1 : min (i : Int) (n : Int) = i := by omega
  have hle : (i : Int) ≤ (n : Int) := by omega
  clear hx1 hy1 hz1
  have HW := HW.out
  go_wp2_with fail
  go_region_held3 (fun w' => w'.cell? ⟨b0, 0, none⟩ = some (.int .u64 x) ∧ w'.cell? ⟨b0, 1, none⟩ = some (.int .i64 n)) (first | assumption | (with_reducible exact keep2 (by assumption) q1 _ _) | (with_reducible exact keep2 (by assumption) q2 _ _) | exact ⟨c0, c1⟩) ((go_at_call 76; refine (HF _).out.mono ?_; rintro e w' ⟨rfl, rfl⟩))
  all_goals go_wp2_with fail
  refine bodyPost_ret (v := .tuple #[.agg #[.int .u64 (bits BinOp.and IntKind.u64 x (2 ^ i - 1)), .int .i64 i], .agg #[.int .u64 (x / 2 ^ i), .int .i64 m]]) (by simp [results, Try.results79, go_sem, d0, d1, e0, e1]) rfl ⟨?_, ?_⟩
  · rw [hv.out, hd.out]
  · rw [hg3]
    exact ((((hfin.out.setCell (p := ⟨b1, 0, none⟩) q4 _).setCell (p := ⟨b1, 1, none⟩) q4 _).setCell (p := ⟨b2, 0, none⟩) q5 _).setCell (p := ⟨b2, 1, none⟩) q5 _).drew
set_option maxHeartbeats 2000000 in
theorem ljoin_yes (a b : List Bool) (w : World) (h : a.length + b.length ≤ 64) :
    Calls Try.prog 91 #[.agg #[.int .u64 (bN a), .int .i64 a.length], .agg #[.int .u64 (bN b), .int .i64 b.length]] w fun e w' =>
      e = .returned (.tuple #[.agg #[.int .u64 (bN (a ++ b)), .int .i64 (a.length + b.length : Nat)], .bool true]) ∧ Below w.heap.size w w' := by
  have hv := Lib.hid (bits_join_list h)
  have HR := fun w => Lib.hid (right_is a w (by omega))
  have HR' := fun w => Lib.hid (right_is b w (by omega))
  generalize hn : a.length = n at *
  generalize hm : b.length = m at *
  generalize hx : (bN a : Int) = x at *
  generalize hy : (bN b : Int) = y at *
  generalize hz : (bN (a ++ b) : Int) = z at *
  have hs : (n : Int) + (m : Int) ≤ 64 := by omega
  have hn0 : (0 : Int) ≤ (n : Int) := by omega
  have hn1 : (n : Int) ≤ 64 := by omega
  have hm1 : (m : Int) ≤ 64 := by omega
  clear hn hm hx hy hz h
  go_enter Try.func91, Try.ntmps91
  go_wp2_with fail
  refine (HR _).out.mono ?_
  rintro e w1 ⟨rfl, hb⟩
  have hx1 := (hb.block w.heap.size (by simp; omega)).trans (al3_0 w (.cells #[.int .u64 x, .int .i64 n] 71) (.cells #[.int .u64 y, .int .i64 m] 71) (.cells #[.int .u64 0, .int .i64 0] 71))
  have hy1 := (hb.block (w.heap.size + 1) (by simp)).trans (al3_1 w (.cells #[.int .u64 x, .int .i64 n] 71) (.cells #[.int .u64 y, .int .i64 m] 71) (.cells #[.int .u64 0, .int .i64 0] 71))
  have hz1 := (hb.block (w.heap.size + 1 + 1) (by simp)).trans (al3_2 w (.cells #[.int .u64 x, .int .i64 n] 71) (.cells #[.int .u64 y, .int .i64 m] 71) (.cells #[.int .u64 0, .int .i64 0] 71))
  have hf1 := (((((Below.refl w.heap.size w).alloc (Nat.le_refl _) (.cells #[.int .u64 x, .int .i64 n] 71)).alloc (by simp) (.cells #[.int .u64 y, .int .i64 m] 71)).alloc (by simp; omega) (.cells #[.int .u64 0, .int .i64 0] 71)).trans (hb.mono (by simp; omega)))
  have hs1 : w.heap.size + 1 + 1 < w1.heap.size := by have h : _ ≤ w1.heap.size := hb.size; simp at h; omega
  have u0 : w1.cell? ⟨w.heap.size + 1, 0, none⟩ = some (.int .u64 y) := cell_of_row _ _ _ _ _ _ hy1
  have u1 : w1.cell? ⟨w.heap.size + 1, 1, none⟩ = some (.int .i64 m) := cell_of_row _ _ _ _ _ _ hy1
  clear hb
  go_wp2_with fail
  refine (HR' _).out.mono ?_
  rintro e w2 ⟨rfl, hb⟩
  replace hx1 := (hb.block _ (by omega)).trans hx1
  replace hy1 := (hb.block _ (by omega)).trans hy1
  replace hz1 := (hb.block _ (by omega)).trans hz1
  have hfin := Lib.hid (hf1.trans (hb.mono (by omega)))
  clear hb hf1 u0 u1 hs1
  have q1 : w.heap.size ≠ w.heap.size + 1 := by omega
  have q2 : w.heap.size ≠ w.heap.size + 1 + 1 := by omega
  have q3 : w.heap.size + 1 ≠ w.heap.size + 1 + 1 := by omega
  have q5 : w.heap.size ≤ w.heap.size + 1 + 1 := by omega
  generalize hg1 : w.heap.size + 1 + 1 = b2 at *
  generalize hg2 : w.heap.size + 1 = b1 at *
  generalize hg3 : w.heap.size = b0 at *
  clear hg1 hg2
  have c0 : w2.cell? ⟨b0, 0, none⟩ = some (.int .u64 x) := cell_of_row _ _ _ _ _ _ hx1
  have c1 : w2.cell? ⟨b0, 1, none⟩ = some (.int .i64 n) := cell_of_row _ _ _ _ _ _ hx1
  have d0 : w2.cell? ⟨b1, 0, none⟩ = some (.int .u64 y) := cell_of_row _ _ _ _ _ _ hy1
  have d1 : w2.cell? ⟨b1, 1, none⟩ = some (.int .i64 m) := cell_of_row _ _ _ _ _ _ hy1
  have e0 : w2.cell? ⟨b2, 0, none⟩ = some (.int .u64 0) := cell_of_row _ _ _ _ _ _ hz1
  have e1 : w2.cell? ⟨b2, 1, none⟩ = some (.int .i64 0) := cell_of_row _ _ _ _ _ _ hz1
  have ef : ∀ j, w2.frozen? ⟨b2, j, none⟩ = false := fun j => frozen_of_row _ _ _ _ _ hz1
  clear hx1 hy1 hz1
  go_wp2_with fail
  go_region
  all_goals go_wp2_with fail
  all_goals refine bodyPost_ret (v := .tuple #[.agg #[.int .u64 (bits BinOp.or IntKind.u64 x (IntKind.u64.wrap (y * 2 ^ n))), .int .i64 ((n : Int) + (m : Int))], .bool true]) (by simp [results, Try.results91, go_sem, e0, e1]) rfl ⟨?_, ?_⟩
  · rw [hv.out]; rfl
  · rw [hg3]
    exact ((hfin.out.setCell (p := ⟨b2, 0, none⟩) q5 _).setCell (p := ⟨b2, 1, none⟩) q5 _).drew
set_option maxHeartbeats 2000000 in
theorem ljoin_no (a b : List Bool) (w : World) (ha : a.length ≤ 64) (hb : b.length ≤ 64) (h : 64 < a.length + b.length) :
    Calls Try.prog 91 #[.agg #[.int .u64 (bN a), .int .i64 a.length], .agg #[.int .u64 (bN b), .int .i64 b.length]] w fun e w' =>
      e = .returned (.tuple #[.agg #[.int .u64 0, .int .i64 0], .bool false]) ∧ Below w.heap.size w w' := by
  have HR := fun w => Lib.hid (right_is a w ha)
  have HR' := fun w => Lib.hid (right_is b w hb)
  generalize hn : a.length = n at *
  generalize hm : b.length = m at *
  generalize hx : (bN a : Int) = x at *
  generalize hy : (bN b : Int) = y at *
  have hs : 64 < (n : Int) + (m : Int) := by omega
  have hn0 : (0 : Int) ≤ (n : Int) := by omega
  have hn1 : (n : Int) ≤ 64 := by omega
  have hm1 : (m : Int) ≤ 64 := by omega
  clear hn hm hx hy h ha hb
  go_enter Try.func91, Try.ntmps91
  go_wp2_with fail
  refine (HR _).out.mono ?_
  rintro e w1 ⟨rfl, hb⟩
  have hx1 := (hb.block w.heap.size (by simp; omega)).trans (al3_0 w (.cells #[.int .u64 x, .int .i64 n] 71) (.cells #[.int .u64 y, .int .i64 m] 71) (.cells #[.int .u64 0, .int .i64 0] 71))
  have hy1 := (hb.block (w.heap.size + 1) (by simp)).trans (al3_1 w (.cells #[.int .u64 x, .int .i64 n] 71) (.cells #[.int .u64 y, .int .i64 m] 71) (.cells #[.int .u64 0, .int .i64 0] 71))
  have hz1 := (hb.block (w.heap.size + 1 + 1) (by simp)).trans (al3_2 w (.cells #[.int .u64 x, .int .i64 n] 71) (.cells #[.int .u64 y, .int .i64 m] 71) (.cells #[.int .u64 0, .int .i64 0] 71))
  have hf1 := (((((Below.refl w.heap.size w).alloc (Nat.le_refl _) (.cells #[.int .u64 x, .int .i64 n] 71)).alloc (by simp) (.cells #[.int .u64 y, .int .i64 m] 71)).alloc (by simp; omega) (.cells #[.int .u64 0, .int .i64 0] 71)).trans (hb.mono (by simp; omega)))
  have hs1 : w.heap.size + 1 + 1 < w1.heap.size := by have h : _ ≤ w1.heap.size := hb.size; simp at h; omega
  have u0 : w1.cell? ⟨w.heap.size + 1, 0, none⟩ = some (.int .u64 y) := cell_of_row _ _ _ _ _ _ hy1
  have u1 : w1.cell? ⟨w.heap.size + 1, 1, none⟩ = some (.int .i64 m) := cell_of_row _ _ _ _ _ _ hy1
  clear hb
  go_wp2_with fail
  refine (HR' _).out.mono ?_
  rintro e w2 ⟨rfl, hb⟩
  replace hx1 := (hb.block _ (by omega)).trans hx1
  replace hy1 := (hb.block _ (by omega)).trans hy1
  replace hz1 := (hb.block _ (by omega)).trans hz1
  have hfin := Lib.hid (hf1.trans (hb.mono (by omega)))
  clear hb hf1 u0 u1 hs1
  have q1 : w.heap.size ≠ w.heap.size + 1 := by omega
  have q2 : w.heap.size ≠ w.heap.size + 1 + 1 := by omega
  have q3 : w.heap.size + 1 ≠ w.heap.size + 1 + 1 := by omega
  have q5 : w.heap.size ≤ w.heap.size + 1 + 1 := by omega
  generalize hg1 : w.heap.size + 1 + 1 = b2 at *
  generalize hg2 : w.heap.size + 1 = b1 at *
  generalize hg3 : w.heap.size = b0 at *
  clear hg1 hg2
  have c0 : w2.cell? ⟨b0, 0, none⟩ = some (.int .u64 x) := cell_of_row _ _ _ _ _ _ hx1
  have c1 : w2.cell? ⟨b0, 1, none⟩ = some (.int .i64 n) := cell_of_row _ _ _ _ _ _ hx1
  have d0 : w2.cell? ⟨b1, 0, none⟩ = some (.int .u64 y) := cell_of_row _ _ _ _ _ _ hy1
  have d1 : w2.cell? ⟨b1, 1, none⟩ = some (.int .i64 m) := cell_of_row _ _ _ _ _ _ hy1
  have e0 : w2.cell? ⟨b2, 0, none⟩ = some (.int .u64 0) := cell_of_row _ _ _ _ _ _ hz1
  have e1 : w2.cell? ⟨b2, 1, none⟩ = some (.int .i64 0) := cell_of_row _ _ _ _ _ _ hz1
  have ef : ∀ j, w2.frozen? ⟨b2, j, none⟩ = false := fun j => frozen_of_row _ _ _ _ _ hz1
  clear hx1 hy1 hz1
  go_wp2_with fail
  refine bodyPost_ret (v := .tuple #[.agg #[.int .u64 0, .int .i64 0], .bool false]) (by simp [results, Try.results91, go_sem, e0, e1]) rfl ⟨rfl, ?_⟩
  rw [hg3]
  exact (hfin.out.setCell (p := ⟨b2, 0, none⟩) q5 _).setCell (p := ⟨b2, 1, none⟩) q5 _
end Go.Proofs.Ytdipgcbppggdhaa
namespace Go.Proofs.Ytdipgcbppggdhaa
set_option maxRecDepth 100000
open Go.RowKit

theorem al2_1 (w : World) (a b : Obj) : ((w.alloc a).alloc b).heap[w.heap.size + 1]? = some b := by
  have := heap_alloc_new (w.alloc a) b
  simpa using this
set_option maxHeartbeats 4000000 in
theorem lins_yes (l : List Bool) (i : Nat) (one : Bool) (w : World) (h : l.length < 64) (hi : i ≤ l.length) :
    Calls Try.prog 77 #[.agg #[.int .u64 (bN l), .int .i64 l.length], .int .i64 i, .bool one] w fun e w' =>
      e = .returned (.tuple #[.agg #[.int .u64 (bN (bIns l i one)), .int .i64 ((bIns l i one).length : Nat)], .bool true]) ∧ Below w.heap.size w w' := by
  have HR := fun w => Lib.hid (right_is l w (by omega))
  have HS := fun w => Lib.hid (lsplit_is l i w (by omega) hi)
  have lt : (l.take i).length = i := by rw [List.length_take]; omega
  have hset := Lib.hid (bits_set (a := l.take i) (by omega))
  have ha1 : (l.take i ++ [one]).length = i + 1 := by rw [List.length_append, lt]; rfl
  have ha2 : (l.drop i).length = l.length - i := by rw [List.length_drop]
  have HJ := fun w => ljoin_yes (l.take i ++ [one]) (l.drop i) w (by omega)
  have he : l.take i ++ [one] ++ l.drop i = bIns l i one := by unfold bIns; rw [List.append_assoc]; rfl
  rw [he, ha1, ha2] at HJ
  have hlen := bIns_len (b := one) hi
  have hw : ((i + 1 : Nat) : Int) = (i : Int) + 1 := by omega
  have hz : (i + 1 + (l.length - i) : Nat) = l.length + 1 := by omega
  rw [hw, hz] at HJ
  replace HJ := fun w => Lib.hid (HJ w)
  rw [lt] at hset
  rw [hlen]
  have hB : one = false → Hid ((bN (l.take i) : Int) = (bN (l.take i ++ [one]) : Int)) := fun e => by rw [e]; exact Lib.hid (by rw [bN_zero])
  have hA : one = true → Hid (bits BinOp.or IntKind.u64 (bN (l.take i) : Int) (IntKind.u64.wrap ((1 : Int) * 2 ^ i)) = (bN (l.take i ++ [one]) : Int)) := fun e => by rw [e]; exact hset
  clear hset
  have hn0 : (i : Int) ≤ (l.length : Int) := by omega
  have hn1 : (l.length : Int) < 64 := by omega
  have hne : ((l.length : Int) == 64) = false := by simp; omega
  generalize bN (bIns l i one) = Z at *
  generalize (bN (l.take i ++ [one]) : Int) = Y at *
  generalize (bN (l.take i) : Int) = X at *
  generalize (bN (l.drop i) : Int) = U at *
  generalize (bN l : Int) = V at *
  generalize l.length - i = d at *
  generalize l.length = n at *
  clear lt ha1 ha2 he hlen hw hz
  cases one
  · have hB := (hB rfl).out
    rw [← hB] at HJ
    clear hA hB
    go_enter Try.func77, Try.ntmps77
    go_wp2_with fail
    have hx0 := heap_alloc_new w (.cells #[.int .u64 V, .int .i64 n] 71)
    refine (HR _).out.mono ?_
    rintro e w1 ⟨rfl, hb⟩
    have hx1 := (hb.block w.heap.size (by simp; omega)).trans ((Below.heap_alloc _ _ _ (by simp)).trans hx0)
    have hz1 := (hb.block (w.heap.size + 1) (by simp)).trans (al2_1 w (.cells #[.int .u64 V, .int .i64 n] 71) (.cells #[.int .u64 0, .int .i64 0] 71))
    have hf1 := Lib.hid ((((Below.refl w.heap.size w).alloc (Nat.le_refl _) (.cells #[.int .u64 V, .int .i64 n] 71)).alloc (by simp) (.cells #[.int .u64 0, .int .i64 0] 71)).trans (hb.mono (by simp; omega)))
    have hs1 : w.heap.size + 1 < w1.heap.size := by have h : _ ≤ w1.heap.size := hb.size; simp at h; omega
    have c0 : w1.cell? ⟨w.heap.size, 0, none⟩ = some (.int .u64 V) := cell_of_row _ _ _ _ _ _ hx1
    have c1 : w1.cell? ⟨w.heap.size, 1, none⟩ = some (.int .i64 n) := cell_of_row _ _ _ _ _ _ hx1
    clear hb hx0
    go_wp2_with fail
    refine (HS _).out.mono ?_
    rintro e w2 ⟨rfl, hb⟩
    replace hz1 := (hb.block _ (by omega)).trans hz1
    have hf2 := Lib.hid (hf1.out.trans (hb.mono (by omega)))
    have hs2 : w.heap.size + 1 < w2.heap.size := Nat.lt_of_lt_of_le hs1 hb.size
    clear hb hx1 hf1 c0 c1 hs1
    go_wp2_with fail
    refine (HJ _).out.mono ?_
    rintro e w3 ⟨rfl, hb⟩
    have hw2 : ∀ a b : Obj, ((w2.alloc a).alloc b).heap[w.heap.size + 1]? = w2.heap[w.heap.size + 1]? := fun a b => (Below.heap_alloc _ _ _ (by simp; omega)).trans (Below.heap_alloc _ _ _ hs2)
    replace hz1 := ((hb.block (w.heap.size + 1) (by simp; omega)).trans (hw2 _ _)).trans hz1
    have hf3 := Lib.hid (((hf2.out.alloc (by omega) _).alloc (by simp; omega) _).trans (hb.mono (by simp; omega)))
    have e0 : w3.cell? ⟨w.heap.size + 1, 0, none⟩ = some (.int .u64 0) := cell_of_row _ _ _ _ _ _ hz1
    have e1 : w3.cell? ⟨w.heap.size + 1, 1, none⟩ = some (.int .i64 0) := cell_of_row _ _ _ _ _ _ hz1
    have ef : ∀ j, w3.frozen? ⟨w.heap.size + 1, j, none⟩ = false := fun j => frozen_of_row _ _ _ _ _ hz1
    clear hb hw2
    go_wp2_with fail
    refine bodyPost_ret (v := .tuple #[.agg #[.int .u64 Z, .int .i64 ((n : Int) + 1)], .bool true]) (by simp [results, Try.results77, go_sem, e0, e1]) rfl ⟨rfl, ?_⟩
    exact (hf3.out.setCell (p := ⟨w.heap.size + 1, 0, none⟩) (by show w.heap.size ≤ w.heap.size + 1; omega) _).setCell (p := ⟨w.heap.size + 1, 1, none⟩) (by show w.heap.size ≤ w.heap.size + 1; omega) _
  · have hA := (hA rfl).out
    rw [Int.one_mul] at hA
    rw [← hA] at HJ
    clear hA hB
    go_enter Try.func77, Try.ntmps77
    go_wp2_with fail
    have hx0 := heap_alloc_new w (.cells #[.int .u64 V, .int .i64 n] 71)
    refine (HR _).out.mono ?_
    rintro e w1 ⟨rfl, hb⟩
    have hx1 := (hb.block w.heap.size (by simp; omega)).trans ((Below.heap_alloc _ _ _ (by simp)).trans hx0)
    have hz1 := (hb.block (w.heap.size + 1) (by simp)).trans (al2_1 w (.cells #[.int .u64 V, .int .i64 n] 71) (.cells #[.int .u64 0, .int .i64 0] 71))
    have hf1 := Lib.hid ((((Below.refl w.heap.size w).alloc (Nat.le_refl _) (.cells #[.int .u64 V, .int .i64 n] 71)).alloc (by simp) (.cells #[.int .u64 0, .int .i64 0] 71)).trans (hb.mono (by simp; omega)))
    have hs1 : w.heap.size + 1 < w1.heap.size := by have h : _ ≤ w1.heap.size := hb.size; simp at h; omega
    have c0 : w1.cell? ⟨w.heap.size, 0, none⟩ = some (.int .u64 V) := cell_of_row _ _ _ _ _ _ hx1
    have c1 : w1.cell? ⟨w.heap.size, 1, none⟩ = some (.int .i64 n) := cell_of_row _ _ _ _ _ _ hx1
    clear hb hx0
    go_wp2_with fail
    refine (HS _).out.mono ?_
    rintro e w2 ⟨rfl, hb⟩
    replace hz1 := (hb.block _ (by omega)).trans hz1
    have hf2 := Lib.hid (hf1.out.trans (hb.mono (by omega)))
    have hs2 : w.heap.size + 1 < w2.heap.size := Nat.lt_of_lt_of_le hs1 hb.size
    clear hb hx1 hf1 c0 c1 hs1
    go_wp2_with fail
    go_region
    go_wp2_with fail
    refine (HJ _).out.mono ?_
    rintro e w3 ⟨rfl, hb⟩
    have hw2 : ∀ a b : Obj, ((w2.alloc a).alloc b).heap[w.heap.size + 1]? = w2.heap[w.heap.size + 1]? := fun a b => (Below.heap_alloc _ _ _ (by simp; omega)).trans (Below.heap_alloc _ _ _ hs2)
    replace hz1 := ((hb.block (w.heap.size + 1) (by simp; omega)).trans (hw2 _ _)).trans hz1
    have hf3 := Lib.hid (((hf2.out.alloc (by omega) _).alloc (by simp; omega) _).drew.trans (hb.mono (by simp; omega)))
    have e0 : w3.cell? ⟨w.heap.size + 1, 0, none⟩ = some (.int .u64 0) := cell_of_row _ _ _ _ _ _ hz1
    have e1 : w3.cell? ⟨w.heap.size + 1, 1, none⟩ = some (.int .i64 0) := cell_of_row _ _ _ _ _ _ hz1
    have ef : ∀ j, w3.frozen? ⟨w.heap.size + 1, j, none⟩ = false := fun j => frozen_of_row _ _ _ _ _ hz1
    clear hb hw2
    go_wp2_with fail
    refine bodyPost_ret (v := .tuple #[.agg #[.int .u64 Z, .int .i64 ((n : Int) + 1)], .bool true]) (by simp [results, Try.results77, go_sem, e0, e1]) rfl ⟨rfl, ?_⟩
    exact (hf3.out.setCell (p := ⟨w.heap.size + 1, 0, none⟩) (by show w.heap.size ≤ w.heap.size + 1; omega) _).setCell (p := ⟨w.heap.size + 1, 1, none⟩) (by show w.heap.size ≤ w.heap.size + 1; omega) _
set_option maxHeartbeats 2000000 in
theorem lins_no (l : List Bool) (i : Nat) (one : Bool) (w : World) (h : l.length = 64) (hi : i ≤ l.length) :
    Calls Try.prog 77 #[.agg #[.int .u64 (bN l), .int .i64 l.length], .int .i64 i, .bool one] w fun e w' =>
      e = .returned (.tuple #[.agg #[.int .u64 0, .int .i64 0], .bool false]) ∧ Below w.heap.size w w' := by
  have HR := fun w => Lib.hid (right_is l w (by omega))
  have hn0 : (i : Int) ≤ (l.length : Int) := by omega
  have hne : ((l.length : Int) == 64) = true := by simp; omega
  generalize (bN l : Int) = V at *
  have hn1 : (l.length : Int) ≤ 64 := by omega
  clear h
  generalize l.length = n at *
  go_enter Try.func77, Try.ntmps77
  go_wp2_with fail
  have hx0 := heap_alloc_new w (.cells #[.int .u64 V, .int .i64 n] 71)
  refine (HR _).out.mono ?_
  rintro e w1 ⟨rfl, hb⟩
  have hx1 := (hb.block w.heap.size (by simp; omega)).trans ((Below.heap_alloc _ _ _ (by simp)).trans hx0)
  have hz1 := (hb.block (w.heap.size + 1) (by simp)).trans (al2_1 w (.cells #[.int .u64 V, .int .i64 n] 71) (.cells #[.int .u64 0, .int .i64 0] 71))
  have hf1 := Lib.hid ((((Below.refl w.heap.size w).alloc (Nat.le_refl _) (.cells #[.int .u64 V, .int .i64 n] 71)).alloc (by simp) (.cells #[.int .u64 0, .int .i64 0] 71)).trans (hb.mono (by simp; omega)))
  have hs1 : w.heap.size + 1 < w1.heap.size := by have h : _ ≤ w1.heap.size := hb.size; simp at h; omega
  have c0 : w1.cell? ⟨w.heap.size, 0, none⟩ = some (.int .u64 V) := cell_of_row _ _ _ _ _ _ hx1
  have c1 : w1.cell? ⟨w.heap.size, 1, none⟩ = some (.int .i64 n) := cell_of_row _ _ _ _ _ _ hx1
  have e0 : w1.cell? ⟨w.heap.size + 1, 0, none⟩ = some (.int .u64 0) := cell_of_row _ _ _ _ _ _ hz1
  have e1 : w1.cell? ⟨w.heap.size + 1, 1, none⟩ = some (.int .i64 0) := cell_of_row _ _ _ _ _ _ hz1
  have ef : ∀ j, w1.frozen? ⟨w.heap.size + 1, j, none⟩ = false := fun j => frozen_of_row _ _ _ _ _ hz1
  clear hb hx0 hx1 hz1
  go_wp2_with fail
  refine bodyPost_ret (v := .tuple #[.agg #[.int .u64 0, .int .i64 0], .bool false]) (by simp [results, Try.results77, go_sem, e0, e1]) rfl ⟨rfl, ?_⟩
  exact (hf1.out.setCell (p := ⟨w.heap.size + 1, 0, none⟩) (by show w.heap.size ≤ w.heap.size + 1; omega) _).setCell (p := ⟨w.heap.size + 1, 1, none⟩) (by show w.heap.size ≤ w.heap.size + 1; omega) _
set_option maxHeartbeats 4000000 in
theorem ldel_is (l : List Bool) (i : Nat) (w : World) (h : l.length ≤ 64) (hi : i < l.length) :
    Calls Try.prog 83 #[.agg #[.int .u64 (bN l), .int .i64 l.length], .int .i64 i] w fun e w' =>
      e = .returned (.tuple #[.agg #[.int .u64 (bN (bDel l i)), .int .i64 ((bDel l i).length : Nat)], .bool true]) ∧ Below w.heap.size w w' := by
  have HR := fun w => Lib.hid (right_is l w (by omega))
  have HS := fun w => Lib.hid (lsplit_is l i w (by omega) (by omega))
  have lt : (l.take i).length = i := by rw [List.length_take]; omega
  have ld : (l.drop i).length = l.length - i := by rw [List.length_drop]
  have HT := fun w => lsplit_is (l.drop i) 1 w (by omega) (by omega)
  rw [ld, List.drop_drop] at HT
  have ha2 : (l.drop (i + 1)).length = l.length - i - 1 := by rw [List.length_drop]; omega
  have HJ := fun w => ljoin_yes (l.take i) (l.drop (i + 1)) w (by omega)
  have he : l.take i ++ l.drop (i + 1) = bDel l i := rfl
  have hlen := bDel_len hi
  rw [he, lt, ha2, show i + (l.length - i - 1) = (bDel l i).length by omega] at HJ
  replace HJ := fun w => Lib.hid (HJ w)
  replace HT := fun w => Lib.hid (HT w)
  have hn0 : (i : Int) < (l.length : Int) := by omega
  have hn1 : (l.length : Int) ≤ 64 := by omega
  generalize (bDel l i).length = q at *
  generalize bN (bDel l i) = Z at *
  generalize (bN (l.take i) : Int) = X at *
  generalize (bN (l.drop (i + 1)) : Int) = Y at *
  generalize (bN (l.drop i) : Int) = U at *
  generalize (bN ((l.drop i).take 1) : Int) = R at *
  generalize (bN l : Int) = V at *
  generalize hd : l.length - i - 1 = d' at *
  generalize l.length - i = d at *
  generalize l.length = n at *
  clear lt ld ha2 he hlen hd
  go_enter Try.func83, Try.ntmps83
  go_wp2_with fail
  have hx0 := heap_alloc_new w (.cells #[.int .u64 V, .int .i64 n] 71)
  refine (HR _).out.mono ?_
  rintro e w1 ⟨rfl, hb⟩
  have hx1 := (hb.block w.heap.size (by simp; omega)).trans ((Below.heap_alloc _ _ _ (by simp)).trans hx0)
  have hz1 := (hb.block (w.heap.size + 1) (by simp)).trans (al2_1 w (.cells #[.int .u64 V, .int .i64 n] 71) (.cells #[.int .u64 0, .int .i64 0] 71))
  have hf1 := Lib.hid ((((Below.refl w.heap.size w).alloc (Nat.le_refl _) (.cells #[.int .u64 V, .int .i64 n] 71)).alloc (by simp) (.cells #[.int .u64 0, .int .i64 0] 71)).trans (hb.mono (by simp; omega)))
  have hs1 : w.heap.size + 1 < w1.heap.size := by have h : _ ≤ w1.heap.size := hb.size; simp at h; omega
  have c0 : w1.cell? ⟨w.heap.size, 0, none⟩ = some (.int .u64 V) := cell_of_row _ _ _ _ _ _ hx1
  have c1 : w1.cell? ⟨w.heap.size, 1, none⟩ = some (.int .i64 n) := cell_of_row _ _ _ _ _ _ hx1
  clear hb hx0
  go_wp2_with fail
  refine (HS _).out.mono ?_
  rintro e w2 ⟨rfl, hb⟩
  replace hz1 := (hb.block _ (by omega)).trans hz1
  have hf2 := Lib.hid (hf1.out.trans (hb.mono (by omega)))
  have hs2 : w.heap.size + 1 < w2.heap.size := Nat.lt_of_lt_of_le hs1 hb.size
  clear hb hx1 hf1 c0 c1 hs1
  go_wp2_with fail
  refine (HT _).out.mono ?_
  rintro e w3 ⟨rfl, hb⟩
  have hw2 : ∀ a b : Obj, ((w2.alloc a).alloc b).heap[w.heap.size + 1]? = w2.heap[w.heap.size + 1]? := fun a b => (Below.heap_alloc _ _ _ (by simp; omega)).trans (Below.heap_alloc _ _ _ hs2)
  replace hz1 := ((hb.block (w.heap.size + 1) (by simp; omega)).trans (hw2 _ _)).trans hz1
  have hp1 := (hb.block w2.heap.size (by simp; omega)).trans ((Below.heap_alloc _ _ _ (by simp)).trans (heap_alloc_new w2 (.cells #[.int .u64 X, .int .i64 i] 71)))
  have hq1 := (hb.block (w2.heap.size + 1) (by simp)).trans (al2_1 w2 (.cells #[.int .u64 X, .int .i64 i] 71) (.cells #[.int .u64 U, .int .i64 d] 71))
  have hf3 := Lib.hid (((hf2.out.alloc (by omega) (.cells #[.int .u64 X, .int .i64 i] 71)).alloc (by simp; omega) (.cells #[.int .u64 U, .int .i64 d] 71)).trans (hb.mono (by simp; omega)))
  have r1 : w.heap.size + 1 ≠ w2.heap.size := by omega
  have r2 : w.heap.size + 1 ≠ w2.heap.size + 1 := by omega
  have r3 : w2.heap.size ≠ w2.heap.size + 1 := by omega
  have r4 : w.heap.size ≤ w2.heap.size + 1 := by omega
  have r5 : w.heap.size ≤ w.heap.size + 1 := by omega
  have hs3 : w2.heap.size + 1 < w3.heap.size := by have h : _ ≤ w3.heap.size := hb.size; simp at h; omega
  clear hb hw2
  generalize hg1 : w2.heap.size + 1 = b3 at *
  generalize hg2 : w2.heap.size = b2 at *
  generalize hg3 : w.heap.size + 1 = b1 at *
  have x0 : w3.cell? ⟨b2, 0, none⟩ = some (.int .u64 X) := cell_of_row _ _ _ _ _ _ hp1
  have x1 : w3.cell? ⟨b2, 1, none⟩ = some (.int .i64 i) := cell_of_row _ _ _ _ _ _ hp1
  have y0 : w3.cell? ⟨b3, 0, none⟩ = some (.int .u64 U) := cell_of_row _ _ _ _ _ _ hq1
  have y1 : w3.cell? ⟨b3, 1, none⟩ = some (.int .i64 d) := cell_of_row _ _ _ _ _ _ hq1
  have yf : ∀ j, w3.frozen? ⟨b3, j, none⟩ = false := fun j => frozen_of_row _ _ _ _ _ hq1
  go_wp2_with fail
  refine (HJ _).out.mono ?_
  rintro e w4 ⟨rfl, hb⟩
  have hz4 := (hb.block b1 (by simp [World.setCell]; omega)).trans (((heap_setCell_other _ _ _ _ r2).trans (heap_setCell_other _ _ _ _ r2)).trans hz1)
  have hf4 := Lib.hid (((hf3.out.setCell (p := ⟨b3, 0, none⟩) r4 (.int .u64 Y)).setCell (p := ⟨b3, 1, none⟩) r4 (.int .i64 d')).trans (hb.mono (by simp [World.setCell]; omega)))
  clear hb
  have e0 : w4.cell? ⟨b1, 0, none⟩ = some (.int .u64 0) := cell_of_row _ _ _ _ _ _ hz4
  have e1 : w4.cell? ⟨b1, 1, none⟩ = some (.int .i64 0) := cell_of_row _ _ _ _ _ _ hz4
  have ef : ∀ j, w4.frozen? ⟨b1, j, none⟩ = false := fun j => frozen_of_row _ _ _ _ _ hz4
  go_wp2_with fail
  refine bodyPost_ret (v := .tuple #[.agg #[.int .u64 Z, .int .i64 q], .bool true]) (by simp [results, Try.results83, go_sem, e0, e1]) rfl ⟨rfl, ?_⟩
  exact (hf4.out.setCell (p := ⟨b1, 0, none⟩) r5 _).setCell (p := ⟨b1, 1, none⟩) r5 _
/-- The place of the k-th of those that are alike. -/
def bsel : List Bool → Bool → Nat → Nat
  | [], _, _ => 0
  | b :: r, one, k => if b = one then (if k = 0 then 0 else 1 + bsel r one (k - 1)) else 1 + bsel r one k
theorem bsel_eq : ∀ (l : List Bool) (one : Bool) (k j : Nat), (l.take j).count one = k → j < l.length → l.getD j false = one → bsel l one k = j
  | [], _, _, _, _, h, _ => absurd h (Nat.not_lt_zero _)
  | b :: r, one, k, 0, h, _, e => by
    have h : 0 = k := by simpa using h
    have e : b = one := e
    unfold bsel
    rw [if_pos e, if_pos h.symm]
  | b :: r, one, k, j + 1, h, hj, e => by
    have hj : j < r.length := by simpa using hj
    have e : r.getD j false = one := by simpa [List.getD] using e
    rw [List.take_succ_cons, List.count_cons] at h
    unfold bsel
    by_cases c : b = one
    · rw [if_pos (by simpa using c)] at h
      rw [if_pos c, if_neg (by omega), bsel_eq r one (k - 1) j (by omega) hj e, Nat.add_comm]
    · rw [if_neg (by simpa using c)] at h
      rw [if_neg c, bsel_eq r one k j (by omega) hj e, Nat.add_comm]
theorem bsel_is : ∀ (l : List Bool) (one : Bool) (k : Nat), k < l.count one → bsel l one k < l.length ∧ l.getD (bsel l one k) false = one ∧ (l.take (bsel l one k)).count one = k
  | [], _, _, h => absurd h (by simp)
  | b :: r, one, k, h => by
    unfold bsel
    rw [List.count_cons] at h
    by_cases c : b = one
    · rw [if_pos (by simpa using c)] at h
      rw [if_pos c]
      by_cases z : k = 0
      · rw [if_pos z]
        exact ⟨by simp, c, by simp [z]⟩
      · rw [if_neg z]
        obtain ⟨a1, a2, a3⟩ := bsel_is r one (k - 1) (by omega)
        rw [Nat.add_comm]
        refine ⟨by simp; omega, by simpa [List.getD] using a2, ?_⟩
        rw [List.take_succ_cons, List.count_cons, if_pos (by simpa using c), a3]
        omega
    · rw [if_neg (by simpa using c)] at h
      rw [if_neg c]
      obtain ⟨a1, a2, a3⟩ := bsel_is r one k (by omega)
      rw [Nat.add_comm]
      refine ⟨by simp; omega, by simpa [List.getD] using a2, ?_⟩
      rw [List.take_succ_cons, List.count_cons, if_neg (by simpa using c), a3]
      omega
end Go.Proofs.Ytdipgcbppggdhaa
namespace Go.Proofs.Ytdipgcbppggdhaa
set_option maxRecDepth 100000
open Go.RowKit

theorem count_take_succ {l : List Bool} {one : Bool} {j : Nat} (hj : j < l.length) : (l.take (j + 1)).count one = (l.take j).count one + if l.getD j false = one then 1 else 0 := by
  rw [List.take_succ_eq_append_getElem hj, List.count_append, List.count_singleton]
  have : l.getD j false = l[j] := by simp [List.getD, hj]
  rw [this]
  by_cases c : l[j] = one
  · rw [if_pos c, if_pos (by simpa using c)]
  · rw [if_neg c, if_neg (by simpa using c)]
/-- While Select goes up. -/
structure SelAt (l : List Bool) (one : Bool) (k0 : Nat) (w : World) (j m : Nat) (W : World) : Prop where
  lt : j ≤ l.length
  cnt : (l.take j).count one + m = k0
  below : Below w.heap.size w W
  box : W.heap[w.heap.size]? = some (.cells #[.int .u64 (bN l), .int .i64 l.length] 71 (0, 0))
set_option maxHeartbeats 4000000 in
theorem lsel_is (l : List Bool) (one : Bool) (k : Nat) (w : World) (h : l.length ≤ 64) (hk : k < l.count one) :
    Calls Try.prog 59 #[.agg #[.int .u64 (bN l), .int .i64 l.length], .bool one, .int .i64 k] w fun e w' =>
      e = .returned (.int .i64 (bsel l one k)) ∧ Below w.heap.size w w' := by
  have HR := fun w => Lib.hid (right_is l w (by omega))
  have HG := fun j w hj => Lib.hid (lget_is l j w h hj)
  have hkl : l.count one ≤ l.length := List.count_le_length
  have hk64 : (k : Int) ≤ 64 := by omega
  have Hk := Lib.hid hk
  clear hk hkl
  go_enter Try.func59, Try.ntmps59
  go_wp2_with fail
  have hx0 := heap_alloc_new w (.cells #[.int .u64 (bN l), .int .i64 l.length] 71)
  refine (HR _).out.mono ?_
  rintro e w1 ⟨rfl, hb⟩
  have hx1 := (hb.block w.heap.size (by simp)).trans hx0
  have hs0 := Lib.hid (show SelAt l one k w 0 k w1 from ⟨Nat.zero_le _, by simp, ((Below.refl w.heap.size w).alloc (Nat.le_refl _) _).trans (hb.mono (by simp)), hx1⟩)
  have c1 : w1.cell? ⟨w.heap.size, 1, none⟩ = some (.int .i64 l.length) := cell_of_row _ _ _ _ _ _ hx1
  clear hb hx0 hx1
  go_wp2_with fail
  clear c1
  go_loopw [2, 17] (fun kk i W => ∃ j m : Nat, kk = .int .i64 m ∧ i = .int .i64 j ∧ SelAt l one k w j m W) (fun _ i _ => l.length - (intOf i).toNat)
  case atStart => exact ⟨0, k, rfl, rfl, hs0.out⟩
  case round =>
    obtain ⟨j, m, rfl, rfl, hs⟩ := hrel
    clear hs0
    have hj : j < l.length := by
      have := hs.lt
      have h1 := hs.cnt
      have h2 := Hk.out
      by_cases e : j = l.length
      · subst e; rw [List.take_length] at h1; omega
      · omega
    have hj' : (j : Int) < (l.length : Int) := by omega
    have hm : (m : Int) ≤ 64 := by have := hs.cnt; omega
    have Hs := Lib.hid hs
    have c0 : wr.cell? ⟨w.heap.size, 0, none⟩ = some (.int .u64 (bN l)) := cell_of_row _ _ _ _ _ _ hs.box
    have c1 : wr.cell? ⟨w.heap.size, 1, none⟩ = some (.int .i64 l.length) := cell_of_row _ _ _ _ _ _ hs.box
    have H := HG j wr hj
    have hcs := Lib.hid (count_take_succ (l := l) (one := one) hj)
    have Hj := Lib.hid hj
    clear hs HR HG hj
    by_cases hb : l.getD j false = one
    · by_cases hm0 : m = 0
      · subst hm0
        have hres := Lib.hid (bsel_eq l one k j (by have := Hs.out.cnt; omega) Hj.out hb)
        rw [hb] at H
        clear hb
        go_wp2_with fail
        refine H.out.mono ?_
        rintro e w2 ⟨rfl, hb2⟩
        have hf := Lib.hid (Hs.out.below.trans (hb2.mono Hs.out.below.size))
        clear hb2
        go_wp2_with fail
        go_ret
        exact ⟨by rw [hres.out]; rfl, hf.out⟩
      · have hm1 : ((m : Int) == 0) = false := by simpa using hm0
        have hm2 : 1 ≤ (m : Int) := by omega
        rw [hb] at H
        have hb' := Lib.hid hb
        clear hb hm0
        go_wp2_with fail
        refine H.out.mono ?_
        rintro e w2 ⟨rfl, hb2⟩
        have hs2 := Lib.hid (show SelAt l one k w (j + 1) (m - 1) w2 from ⟨by have := Hj.out; omega, by have := Hs.out.cnt; have h3 := hcs.out; rw [if_pos hb'.out] at h3; omega, Hs.out.below.trans (hb2.mono Hs.out.below.size), (hb2.block _ (lt_heap Hs.out.box)).trans Hs.out.box⟩)
        clear hb2
        go_wp2_with fail
        go_roundw
        case rel => exact ⟨j + 1, m - 1, by rw [show ((m - 1 : Nat) : Int) = (m : Int) - 1 by omega], by go_num, hs2.out⟩
        case measure => simp [intOf]; omega
    · have hne : (l.getD j false == one) = false := by simpa using hb
      have hb' := Lib.hid hb
      clear hb
      generalize hg : l.getD j false = g at *
      have Hg := Lib.hid hg
      clear hg
      go_wp2_with fail
      refine H.out.mono ?_
      rintro e w2 ⟨rfl, hb2⟩
      have hs2 := Lib.hid (show SelAt l one k w (j + 1) m w2 from ⟨by have := Hj.out; omega, by have := Hs.out.cnt; have h3 := hcs.out; rw [if_neg hb'.out] at h3; omega, Hs.out.below.trans (hb2.mono Hs.out.below.size), (hb2.block _ (lt_heap Hs.out.box)).trans Hs.out.box⟩)
      clear hb2
      go_wp2_with fail
      go_roundw
      case rel => exact ⟨j + 1, m, rfl, by go_num, hs2.out⟩
      case measure => simp [intOf]; omega
end Go.Proofs.Ytdipgcbppggdhaa
