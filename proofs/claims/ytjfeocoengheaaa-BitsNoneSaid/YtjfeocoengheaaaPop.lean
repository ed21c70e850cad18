/- How many bits of a word are 1: what the sums of neighbours come to. -/
import Derived.Test.YtjfeocoengheaaaBl
namespace Go.Proofs.Ytjfeocoengheaaa
set_option maxRecDepth 100000

/-- A number of bytes, the least one first. -/
def bval : List Nat → Nat
  | [] => 0
  | b :: r => b + 256 * bval r
theorem bval_lt : ∀ l : List Nat, (∀ b ∈ l, b < 256) → bval l < 256 ^ l.length
  | [], _ => by simp [bval]
  | b :: r, h => by
    have hb := h b (by simp)
    have ih := bval_lt r fun x hx => h x (List.mem_cons_of_mem _ hx)
    simp only [bval, List.length_cons, Nat.pow_succ]
    omega
def p1 (b : Nat) : Nat := (b / 2 &&& 85) + (b &&& 85)
def p2 (b : Nat) : Nat := (b / 4 &&& 51) + (b &&& 51)
def p3 (b : Nat) : Nat := b / 16 + b % 16
theorem and_byte {b c y M : Nat} (hb : b < 256) (hc : c < 256) : (b + 256 * y) &&& (c + 256 * M) = (b &&& c) + 256 * (y &&& M) := by
  have h1 : ((b + 256 * y) &&& (c + 256 * M)) % 256 = b &&& c := by
    have := Nat.and_mod_two_pow (a := b + 256 * y) (b := c + 256 * M) (n := 8)
    rw [show (2 : Nat) ^ 8 = 256 by rfl] at this
    rw [this]
    congr 1 <;> omega
  have h2 : ((b + 256 * y) &&& (c + 256 * M)) / 256 = y &&& M := by
    have := Nat.and_div_two_pow (a := b + 256 * y) (b := c + 256 * M) (n := 8)
    rw [show (2 : Nat) ^ 8 = 256 by rfl] at this
    rw [this]
    congr 1 <;> omega
  omega
theorem low1 : ∀ b : Fin 256, ∀ t : Fin 2, (b.val / 2 + 128 * t.val) &&& 85 = b.val / 2 &&& 85 := by decide +kernel
theorem low2 : ∀ b : Fin 256, ∀ t : Fin 4, (b.val / 4 + 64 * t.val) &&& 51 = b.val / 4 &&& 51 := by decide +kernel
theorem low3 : ∀ b : Fin 256, ∀ t : Fin 5, b.val / 16 ≤ 4 → b.val % 16 ≤ 4 → (b.val / 16 + b.val + 16 * t.val) &&& 15 = p3 b.val := by decide +kernel
theorem p1_lt : ∀ b : Fin 256, p1 b.val < 256 := by decide +kernel
theorem p2_lt : ∀ b : Fin 256, p2 (p1 b.val) < 256 ∧ p2 (p1 b.val) / 16 ≤ 4 ∧ p2 (p1 b.val) % 16 ≤ 4 := by decide +kernel
theorem shift1 {b y M : Nat} (hb : b < 256) : (b + 256 * y) / 2 &&& (85 + 256 * M) = (b / 2 &&& 85) + 256 * (y / 2 &&& M) := by
  rw [show (b + 256 * y) / 2 = (b / 2 + 128 * (y % 2)) + 256 * (y / 2) by omega, and_byte (by omega) (by omega)]
  rw [low1 ⟨b, hb⟩ ⟨y % 2, by omega⟩]
theorem shift2 {b y M : Nat} (hb : b < 256) : (b + 256 * y) / 4 &&& (51 + 256 * M) = (b / 4 &&& 51) + 256 * (y / 4 &&& M) := by
  rw [show (b + 256 * y) / 4 = (b / 4 + 64 * (y % 4)) + 256 * (y / 4) by omega, and_byte (by omega) (by omega)]
  rw [low2 ⟨b, hb⟩ ⟨y % 4, by omega⟩]
theorem step1 : ∀ l : List Nat, (∀ b ∈ l, b < 256) → (bval l / 2 &&& bval (List.replicate l.length 85)) + (bval l &&& bval (List.replicate l.length 85)) = bval (l.map p1)
  | [], _ => by simp [bval]
  | b :: r, h => by
    have hb := h b (by simp)
    have ih := step1 r fun x hx => h x (List.mem_cons_of_mem _ hx)
    simp only [List.length_cons, List.replicate_succ, List.map_cons, bval]
    rw [shift1 hb, and_byte hb (by omega), p1]
    omega
theorem step2 : ∀ l : List Nat, (∀ b ∈ l, b < 256) → (bval l / 4 &&& bval (List.replicate l.length 51)) + (bval l &&& bval (List.replicate l.length 51)) = bval (l.map p2)
  | [], _ => by simp [bval]
  | b :: r, h => by
    have hb := h b (by simp)
    have ih := step2 r fun x hx => h x (List.mem_cons_of_mem _ hx)
    simp only [List.length_cons, List.replicate_succ, List.map_cons, bval]
    rw [shift2 hb, and_byte hb (by omega), p2]
    omega
theorem step3 : ∀ l : List Nat, (∀ b ∈ l, b < 256 ∧ b / 16 ≤ 4 ∧ b % 16 ≤ 4) → (bval l / 16 + bval l &&& bval (List.replicate l.length 15)) = bval (l.map p3)
  | [], _ => by simp [bval]
  | b :: r, h => by
    obtain ⟨hb, h1, h2⟩ := h b (by simp)
    have ih := step3 r fun x hx => h x (List.mem_cons_of_mem _ hx)
    have h3 : bval r % 16 ≤ 4 := by
      cases r with
      | nil => show 0 % 16 ≤ 4; omega
      | cons c q =>
        have := h c (by simp)
        show (c + 256 * bval q) % 16 ≤ 4
        omega
    simp only [List.length_cons, List.replicate_succ, List.map_cons, bval]
    have e3 : (b / 16 + b + 16 * (bval r % 16)) &&& 15 = p3 b := low3 ⟨b, hb⟩ ⟨bval r % 16, by omega⟩ h1 h2
    rw [show (b + 256 * bval r) / 16 + (b + 256 * bval r) = (b / 16 + b + 16 * (bval r % 16)) + 256 * (bval r / 16 + bval r) by omega, and_byte (by omega) (by omega), e3]
    omega
/-- How many of eight bits are 1. -/
def pc8 (b : Nat) : Nat := p3 (p2 (p1 b))
theorem pc8_bits : ∀ a b c d e f g h : Bool, pc8 (bN [a, b, c, d, e, f, g, h]) = [a, b, c, d, e, f, g, h].count true := by decide +kernel
theorem pc8_le : ∀ b : Fin 256, pc8 b.val ≤ 8 := by decide +kernel
/-- The bytes of a list of bits. -/
def bytes : Nat → List Bool → List Nat
  | 0, _ => []
  | n + 1, l => bN (l.take 8) :: bytes n (l.drop 8)
theorem bytes_len : ∀ (n : Nat) (l : List Bool), (bytes n l).length = n
  | 0, _ => rfl
  | n + 1, l => by simp [bytes, bytes_len n]
theorem bytes_lt : ∀ (n : Nat) (l : List Bool), ∀ b ∈ bytes n l, b < 256
  | 0, _, b, hb => by cases hb
  | n + 1, l, b, hb => by
    simp only [bytes, List.mem_cons] at hb
    rcases hb with rfl | hb
    · have h8 : (l.take 8).length ≤ 8 := by rw [List.length_take]; exact Nat.min_le_left _ _
      exact Nat.lt_of_lt_of_le (bN_lt _) (Nat.pow_le_pow_right (n := 2) (by decide) h8)
    · exact bytes_lt n _ b hb
theorem bytes_val : ∀ (n : Nat) (l : List Bool), l.length = 8 * n → bval (bytes n l) = bN l
  | 0, l, h => by
    have : l = [] := List.eq_nil_of_length_eq_zero (by omega)
    subst this; rfl
  | n + 1, l, h => by
    have ih := bytes_val n (l.drop 8) (by rw [List.length_drop]; omega)
    have e := bN_append (l.take 8) (l.drop 8)
    rw [List.take_append_drop, List.length_take, show min 8 l.length = 8 by omega] at e
    simp only [bytes, bval]
    rw [ih, e]
theorem bytes_pop : ∀ (n : Nat) (l : List Bool), l.length = 8 * n → ((bytes n l).map pc8).sum = l.count true
  | 0, l, h => by
    have : l = [] := List.eq_nil_of_length_eq_zero (by omega)
    subst this; rfl
  | n + 1, l, h => by
    have ih := bytes_pop n (l.drop 8) (by rw [List.length_drop]; omega)
    have e : pc8 (bN (l.take 8)) = (l.take 8).count true := by
      have hl : (l.take 8).length = 8 := by rw [List.length_take]; omega
      generalize l.take 8 = q at hl
      match q, hl with
      | [a, b, c, d, e, f, g, h], _ => exact pc8_bits a b c d e f g h
    simp only [bytes, List.map_cons, List.sum_cons]
    rw [ih, e, ← List.count_append, List.take_append_drop]
theorem bN_pad (l : List Bool) (k : Nat) : bN (l ++ List.replicate k false) = bN l := by
  have : bN (List.replicate k false) = 0 := by
    induction k with
    | zero => rfl
    | succ k ih => simp only [List.replicate_succ, bN, ih]; rfl
  rw [bN_append, this]
  omega
theorem eight {z : List Nat} (h : z.length = 8) : ∃ a b c d e f g i, z = [a, b, c, d, e, f, g, i] := by
  match z, h with
  | [a, b, c, d, e, f, g, i], _ => exact ⟨a, b, c, d, e, f, g, i, rfl⟩
/-- The word behind the three steps. -/
def swar3 (x : Nat) : Nat :=
  let x1 := (x / 2 &&& 6148914691236517205) + (x &&& 6148914691236517205)
  let x2 := (x1 / 4 &&& 3689348814741910323) + (x1 &&& 3689348814741910323)
  (x2 / 16 + x2) &&& 1085102592571150095
theorem swar3_is {l : List Bool} (h : l.length ≤ 64) : ∃ q0 q1 q2 q3 q4 q5 q6 q7 : Nat, q0 ≤ 8 ∧ q1 ≤ 8 ∧ q2 ≤ 8 ∧ q3 ≤ 8 ∧ q4 ≤ 8 ∧ q5 ≤ 8 ∧ q6 ≤ 8 ∧ q7 ≤ 8 ∧
    swar3 (bN l) = q0 + 256 * (q1 + 256 * (q2 + 256 * (q3 + 256 * (q4 + 256 * (q5 + 256 * (q6 + 256 * q7)))))) ∧ q0 + q1 + q2 + q3 + q4 + q5 + q6 + q7 = l.count true ∧
    (bN l / 2 &&& 6148914691236517205) + (bN l &&& 6148914691236517205) < 18446744073709551616 := by
  obtain ⟨k, hk⟩ : ∃ k, l.length + k = 64 := ⟨64 - l.length, by omega⟩
  have e1 : bN l = bval (bytes 8 (l ++ List.replicate k false)) := by rw [bytes_val 8 _ (by simp; omega), bN_pad]
  have e2 : ((bytes 8 (l ++ List.replicate k false)).map pc8).sum = l.count true := by
    rw [bytes_pop 8 _ (by simp; omega), List.count_append]
    simp [List.count_replicate]
  have hlen := bytes_len 8 (l ++ List.replicate k false)
  have hlt := bytes_lt 8 (l ++ List.replicate k false)
  rw [e1]
  generalize bytes 8 (l ++ List.replicate k false) = q at *
  have m1 : bval (List.replicate q.length 85) = 6148914691236517205 := by rw [hlen]; decide
  have m2 : bval (List.replicate (q.map p1).length 51) = 3689348814741910323 := by rw [List.length_map, hlen]; decide
  have m3 : bval (List.replicate ((q.map p1).map p2).length 15) = 1085102592571150095 := by rw [List.length_map, List.length_map, hlen]; decide
  have s1 := step1 q hlt
  have l1 : ∀ b ∈ q.map p1, b < 256 := fun b hb => by
    obtain ⟨a, ha, rfl⟩ := List.mem_map.1 hb
    exact p1_lt ⟨a, hlt a ha⟩
  have s2 := step2 (q.map p1) l1
  have l2 : ∀ b ∈ (q.map p1).map p2, b < 256 ∧ b / 16 ≤ 4 ∧ b % 16 ≤ 4 := fun b hb => by
    obtain ⟨c, hc, rfl⟩ := List.mem_map.1 hb
    obtain ⟨a, ha, rfl⟩ := List.mem_map.1 hc
    exact p2_lt ⟨a, hlt a ha⟩
  have s3 := step3 ((q.map p1).map p2) l2
  rw [m1] at s1
  rw [m2] at s2
  rw [m3] at s3
  have e3 : swar3 (bval q) = bval (q.map pc8) := by
    unfold swar3
    simp only [s1]
    simp only [s2]
    rw [s3, List.map_map, List.map_map]
    rfl
  have hle : ∀ b ∈ q.map pc8, b ≤ 8 := fun b hb => by
    obtain ⟨a, ha, rfl⟩ := List.mem_map.1 hb
    exact pc8_le ⟨a, hlt a ha⟩
  have hl8 : (q.map pc8).length = 8 := by rw [List.length_map, hlen]
  have hs1 : bval (q.map p1) < 18446744073709551616 := by
    have hl8' : (q.map p1).length = 8 := by rw [List.length_map, hlen]
    have hlt1 := bval_lt _ l1
    rw [hl8'] at hlt1
    exact hlt1
  rw [s1, e3]
  clear s1 s2 s3 m1 m2 m3 l1 l2 hlen hlt
  generalize bval (q.map p1) = big at *
  generalize q.map pc8 = z at *
  obtain ⟨q0, q1, q2, q3, q4, q5, q6, q7, rfl⟩ := eight hl8
  have v : bval [q0, q1, q2, q3, q4, q5, q6, q7] = q0 + 256 * (q1 + 256 * (q2 + 256 * (q3 + 256 * (q4 + 256 * (q5 + 256 * (q6 + 256 * q7)))))) := by simp only [bval, Nat.mul_zero, Nat.add_zero]
  rw [v]
  clear v e3 e1
  have y0 := hle q0 (by simp)
  have y1 := hle q1 (by simp)
  have y2 := hle q2 (by simp)
  have y3 := hle q3 (by simp)
  have y4 := hle q4 (by simp)
  have y5 := hle q5 (by simp)
  have y6 := hle q6 (by simp)
  have y7 := hle q7 (by simp)
  clear hle hl8
  exact ⟨q0, q1, q2, q3, q4, q5, q6, q7, y0, y1, y2, y3, y4, y5, y6, y7, rfl, by rw [← e2]; simp only [List.sum_cons, List.sum_nil]; omega, hs1⟩
/-- What math/bits reckons. -/
def swI (x : Int) : Int :=
  let a := IntKind.u64.wrap (bits .and .u64 (x / 2) 6148914691236517205 + bits .and .u64 x 6148914691236517205)
  let b := IntKind.u64.wrap (bits .and .u64 (a / 4) 3689348814741910323 + bits .and .u64 a 3689348814741910323)
  let c := bits .and .u64 (IntKind.u64.wrap (b / 16 + b)) 1085102592571150095
  let d := IntKind.u64.wrap (c + c / 256)
  let e := IntKind.u64.wrap (d + d / 65536)
  let f := IntKind.u64.wrap (e + e / 4294967296)
  bits .and .i64 (IntKind.i64.wrap f) 127
theorem and_nat {a b : Nat} (ha : a < 18446744073709551616) (hb : b < 18446744073709551616) : bits .and .u64 (a : Int) (b : Int) = ((a &&& b : Nat) : Int) := (bits_nat .u64 64 (by decide) wraps_u64 a b ha hb).1
theorem wrap_nat {a : Nat} (ha : a < 18446744073709551616) : IntKind.u64.wrap (a : Int) = (a : Int) := wraps_u64 _ (by omega) (by omega)
theorem swI_is {l : List Bool} (h : l.length ≤ 64) : swI (bN l) = ((l.count true : Nat) : Int) := by
  obtain ⟨q0, q1, q2, q3, q4, q5, q6, q7, h0, h1, h2, h3, h4, h5, h6, h7, hv, hs, hlt⟩ := swar3_is h
  have hx := bN_lt64 h
  generalize bN l = x at *
  unfold swar3 at hv
  dsimp only at hv
  generalize hA : (x / 2 &&& 6148914691236517205) + (x &&& 6148914691236517205) = A at *
  generalize hB : (A / 4 &&& 3689348814741910323) + (A &&& 3689348814741910323) = B at *
  have b1 : A / 4 &&& 3689348814741910323 ≤ 3689348814741910323 := Nat.and_le_right
  have b2 : A &&& 3689348814741910323 ≤ 3689348814741910323 := Nat.and_le_right
  have a1 : IntKind.u64.wrap (bits .and .u64 ((x : Int) / 2) 6148914691236517205 + bits .and .u64 (x : Int) 6148914691236517205) = (A : Int) := by
    have e1 : bits .and .u64 ((x : Int) / 2) 6148914691236517205 = ((x / 2 &&& 6148914691236517205 : Nat) : Int) := and_nat (a := x / 2) (b := 6148914691236517205) (by omega) (by decide)
    have e2 : bits .and .u64 (x : Int) 6148914691236517205 = ((x &&& 6148914691236517205 : Nat) : Int) := and_nat (a := x) (b := 6148914691236517205) hx (by decide)
    rw [e1, e2, ← Int.natCast_add, hA]
    exact wrap_nat hlt
  have a2 : IntKind.u64.wrap (bits .and .u64 ((A : Int) / 4) 3689348814741910323 + bits .and .u64 (A : Int) 3689348814741910323) = (B : Int) := by
    have e1 : bits .and .u64 ((A : Int) / 4) 3689348814741910323 = ((A / 4 &&& 3689348814741910323 : Nat) : Int) := and_nat (a := A / 4) (b := 3689348814741910323) (by omega) (by decide)
    have e2 : bits .and .u64 (A : Int) 3689348814741910323 = ((A &&& 3689348814741910323 : Nat) : Int) := and_nat (a := A) (b := 3689348814741910323) hlt (by decide)
    rw [e1, e2, ← Int.natCast_add, hB]
    exact wrap_nat (by omega)
  have a3 : bits .and .u64 (IntKind.u64.wrap ((B : Int) / 16 + B)) 1085102592571150095 = ((B / 16 + B &&& 1085102592571150095 : Nat) : Int) := by
    have e1 : IntKind.u64.wrap ((B : Int) / 16 + B) = ((B / 16 + B : Nat) : Int) := wrap_nat (a := B / 16 + B) (by omega)
    rw [e1]
    exact and_nat (b := 1085102592571150095) (by omega) (by decide)
  unfold swI
  simp only [a1]
  simp only [a2]
  simp only [a3]
  rw [hv]
  clear a1 a2 a3 b1 b2 hA hB hv hlt hx
  have v1 : ∀ c : Nat, c = q0 + 256 * (q1 + 256 * (q2 + 256 * (q3 + 256 * (q4 + 256 * (q5 + 256 * (q6 + 256 * q7)))))) → IntKind.u64.wrap ((c : Int) + (c : Int) / 256) = ((q0 + q1) + 256 * ((q1 + q2) + 256 * ((q2 + q3) + 256 * ((q3 + q4) + 256 * ((q4 + q5) + 256 * ((q5 + q6) + 256 * ((q6 + q7) + 256 * q7)))))) : Nat) := fun c hc => by
    have : c / 256 = q1 + 256 * (q2 + 256 * (q3 + 256 * (q4 + 256 * (q5 + 256 * (q6 + 256 * q7))))) := by omega
    rw [show (c : Int) + (c : Int) / 256 = ((c + c / 256 : Nat) : Int) by rfl, wrap_nat (by omega)]
    congr 1
    omega
  rw [v1 _ rfl]
  clear v1
  have v2 : ∀ c : Nat, c = (q0 + q1) + 256 * ((q1 + q2) + 256 * ((q2 + q3) + 256 * ((q3 + q4) + 256 * ((q4 + q5) + 256 * ((q5 + q6) + 256 * ((q6 + q7) + 256 * q7)))))) → IntKind.u64.wrap ((c : Int) + (c : Int) / 65536) = ((q0 + q1 + q2 + q3) + 256 * ((q1 + q2 + q3 + q4) + 256 * ((q2 + q3 + q4 + q5) + 256 * ((q3 + q4 + q5 + q6) + 256 * ((q4 + q5 + q6 + q7) + 256 * ((q5 + q6 + q7) + 256 * ((q6 + q7) + 256 * q7)))))) : Nat) := fun c hc => by
    have : c / 65536 = (q2 + q3) + 256 * ((q3 + q4) + 256 * ((q4 + q5) + 256 * ((q5 + q6) + 256 * ((q6 + q7) + 256 * q7)))) := by omega
    rw [show (c : Int) + (c : Int) / 65536 = ((c + c / 65536 : Nat) : Int) by rfl, wrap_nat (by omega)]
    congr 1
    omega
  rw [v2 _ rfl]
  clear v2
  have v3 : ∀ c : Nat, c = (q0 + q1 + q2 + q3) + 256 * ((q1 + q2 + q3 + q4) + 256 * ((q2 + q3 + q4 + q5) + 256 * ((q3 + q4 + q5 + q6) + 256 * ((q4 + q5 + q6 + q7) + 256 * ((q5 + q6 + q7) + 256 * ((q6 + q7) + 256 * q7)))))) → ∃ m : Nat, IntKind.u64.wrap ((c : Int) + (c : Int) / 4294967296) = ((q0 + q1 + q2 + q3 + q4 + q5 + q6 + q7 + 256 * m : Nat) : Int) ∧ m < 36028797018963968 := fun c hc => by
    have : c / 4294967296 = (q4 + q5 + q6 + q7) + 256 * ((q5 + q6 + q7) + 256 * ((q6 + q7) + 256 * q7)) := by omega
    rw [show (c : Int) + (c : Int) / 4294967296 = ((c + c / 4294967296 : Nat) : Int) by rfl, wrap_nat (by omega)]
    refine ⟨(c + c / 4294967296) / 256, ?_, by omega⟩
    congr 1
    omega
  obtain ⟨m, e3, hm⟩ := v3 _ rfl
  rw [e3]
  clear v3 e3
  have e4 : IntKind.i64.wrap ((q0 + q1 + q2 + q3 + q4 + q5 + q6 + q7 + 256 * m : Nat) : Int) = ((q0 + q1 + q2 + q3 + q4 + q5 + q6 + q7 + 256 * m : Nat) : Int) := by
    rw [IntKind.wrap_i64]; omega
  rw [e4]
  have e5 := bits_mask .i64 63 (by decide) (fun n h0 h1 => by rw [IntKind.wrap_i64]; omega) 7 (by decide) ((q0 + q1 + q2 + q3 + q4 + q5 + q6 + q7 + 256 * m : Nat) : Int) (by omega) (by omega)
  rw [show (2 : Int) ^ 7 - 1 = 127 by rfl] at e5
  rw [e5, show (2 : Int) ^ 7 = 128 by rfl]
  omega
end Go.Proofs.Ytjfeocoengheaaa
