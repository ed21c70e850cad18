/- Rows of symbols, plainly: how often a symbol is among the first ones, how many are less, where the k-th is, level by level. -/
import Derived.Test.YtdipgcbppggdhaaWv4
import Derived.Test.YtdipgcbppggdhaaGpF
namespace Go.Proofs.Ytdipgcbppggdhaa
set_option maxRecDepth 100000
/-- Are the lowest bits alike? -/
def wsame (n v y : Nat) : Bool := y % 2 ^ n == v % 2 ^ n
/-- Are the lowest bits less? -/
def wless (n v y : Nat) : Bool := decide (y % 2 ^ n < v % 2 ^ n)
/-- How often a symbol is among the first ones; how many are less; where the k-th is: of the lowest bits alone. -/
def wrank (n v : Nat) (ys : List Nat) (i : Nat) : Nat := (ys.take i).countP (wsame n v)
def wbef (n v : Nat) (ys : List Nat) : Nat := ys.countP (wless n v)
def wsel : Nat → Nat → List Nat → Nat → Nat
  | 0, _, _, k => k
  | n + 1, v, ys, k => bsel (ys.map (wb n)) (wb n v) (wsel n v (ys.filter fun y => wb n y == wb n v) k)
theorem mod_up (n x : Nat) : x % 2 ^ (n + 1) = x % 2 ^ n + 2 ^ n * (if wb n x = true then 1 else 0) := by
  rw [Nat.pow_succ, Nat.mod_mul]
  unfold wb
  have : x / 2 ^ n % 2 = 0 ∨ x / 2 ^ n % 2 = 1 := by omega
  rcases this with h | h <;> rw [h] <;> rfl
theorem wsame_up (n v y : Nat) : wsame (n + 1) v y = ((wb n y == wb n v) && wsame n v y) := by
  unfold wsame
  rw [mod_up, mod_up]
  have h1 : y % 2 ^ n < 2 ^ n := Nat.mod_lt _ (Nat.two_pow_pos n)
  have h2 : v % 2 ^ n < 2 ^ n := Nat.mod_lt _ (Nat.two_pow_pos n)
  rw [Bool.eq_iff_iff]
  generalize y % 2 ^ n = a at *
  generalize v % 2 ^ n = b at *
  generalize 2 ^ n = P at *
  cases wb n y <;> cases wb n v <;> simp <;> omega
theorem wless_up (n v y : Nat) : wless (n + 1) v y = ((!wb n y && wb n v) || ((wb n y == wb n v) && wless n v y)) := by
  unfold wless
  rw [mod_up, mod_up]
  have h1 : y % 2 ^ n < 2 ^ n := Nat.mod_lt _ (Nat.two_pow_pos n)
  have h2 : v % 2 ^ n < 2 ^ n := Nat.mod_lt _ (Nat.two_pow_pos n)
  rw [Bool.eq_iff_iff]
  generalize y % 2 ^ n = a at *
  generalize v % 2 ^ n = b at *
  generalize 2 ^ n = P at *
  cases wb n y <;> cases wb n v <;> simp <;> omega
theorem wrank_up (n v : Nat) (ys : List Nat) (i : Nat) : wrank (n + 1) v ys i = wrank n v (ys.filter fun y => wb n y == wb n v) (((ys.map (wb n)).take i).count (wb n v)) := by
  unfold wrank
  rw [cnt_one, ← (filter_take_drop (xs := ys) (p := fun y => wb n y == wb n v) i).1, List.countP_filter]
  congr 1
  funext y
  rw [wsame_up, Bool.and_comm]
theorem wbef_up (n v : Nat) (ys : List Nat) : wbef (n + 1) v ys = (if wb n v = true then (ys.map (wb n)).count false else 0) + wbef n v (ys.filter fun y => wb n y == wb n v) := by
  unfold wbef
  rw [List.countP_filter]
  induction ys with
  | nil => simp
  | cons y ys ih =>
    rw [List.countP_cons, ih, List.countP_cons, wless_up, List.map_cons, List.count_cons]
    cases wb n y <;> cases wb n v <;> simp <;> omega
theorem wsel_spec : ∀ (n v : Nat) (ys : List Nat) (k : Nat), k < ys.countP (wsame n v) → wsel n v ys k < ys.length ∧ wsame n v (ys.getD (wsel n v ys k) 0) = true ∧ wrank n v ys (wsel n v ys k) = k
  | 0, v, ys, k, h => by
    have hs : ∀ y, wsame 0 v y = true := fun y => by unfold wsame; simp [Nat.mod_one]
    have hl : ys.countP (wsame 0 v) = ys.length := by rw [List.countP_eq_length]; intro y _; exact hs y
    rw [hl] at h
    refine ⟨h, hs _, ?_⟩
    show (ys.take k).countP (wsame 0 v) = k
    rw [List.countP_eq_length.2 fun y _ => hs y, List.length_take]
    omega
  | n + 1, v, ys, k, h => by
    obtain ⟨one, ho⟩ : ∃ one, one = wb n v := ⟨_, rfl⟩
    have hc : ys.countP (wsame (n + 1) v) = (ys.filter fun y => wb n y == wb n v).countP (wsame n v) := by
      rw [List.countP_filter]
      congr 1
      funext y
      rw [wsame_up, Bool.and_comm]
    rw [hc] at h
    obtain ⟨h1, h2, h3⟩ := wsel_spec n v (ys.filter fun y => wb n y == wb n v) k h
    have hcnt : (ys.map (wb n)).count (wb n v) = (ys.filter fun y => wb n y == wb n v).length := by
      have := cnt_one (wb n) (wb n v) ys ys.length
      rw [List.take_of_length_le (by rw [List.length_map]; omega), List.take_of_length_le (Nat.le_refl _)] at this
      rw [this, List.countP_eq_length_filter]
    show bsel (ys.map (wb n)) (wb n v) (wsel n v (ys.filter fun y => wb n y == wb n v) k) < ys.length ∧ wsame (n + 1) v (ys.getD (bsel (ys.map (wb n)) (wb n v) (wsel n v (ys.filter fun y => wb n y == wb n v) k)) 0) = true ∧ wrank (n + 1) v ys (bsel (ys.map (wb n)) (wb n v) (wsel n v (ys.filter fun y => wb n y == wb n v) k)) = k
    obtain ⟨b1, b2, b3⟩ := bsel_spec (ys.map (wb n)) (wb n v) (wsel n v (ys.filter fun y => wb n y == wb n v) k) (by rw [hcnt]; exact h1)
    generalize bsel (ys.map (wb n)) (wb n v) (wsel n v (ys.filter fun y => wb n y == wb n v) k) = J at *
    generalize wsel n v (ys.filter fun y => wb n y == wb n v) k = j at *
    rw [List.length_map] at b1
    have b2' : wb n (ys.getD J 0) = wb n v := by
      rw [← b2]
      simp [List.getD, b1]
    have hv : (fun y => wb n y == wb n v) (ys.getD J 0) = true := by show (wb n (ys.getD J 0) == wb n v) = true; rw [b2']; simp
    obtain ⟨_, d2, d3⟩ := wDel_filter_yes (p := fun y => wb n y == wb n v) b1 hv
    rw [cnt_one] at b3
    rw [b3] at d3
    refine ⟨b1, ?_, ?_⟩
    · rw [wsame_up, b2', ← d3, h2]; simp
    · rw [wrank_up, cnt_one, b3]
      exact h3
theorem wrank_le (n v : Nat) (ys : List Nat) (i : Nat) : wrank n v ys i ≤ i := by
  unfold wrank
  have := List.countP_le_length (p := wsame n v) (l := ys.take i)
  rw [List.length_take] at this
  omega
theorem wrank_zero {v : Nat} {ys : List Nat} {i : Nat} (h : i ≤ ys.length) : wrank 0 v ys i = i := by
  unfold wrank
  rw [List.countP_eq_length.2 fun y _ => by unfold wsame; simp [Nat.mod_one], List.length_take]
  omega
theorem wbef_zero (v : Nat) (ys : List Nat) : wbef 0 v ys = 0 := by
  unfold wbef
  rw [List.countP_eq_zero]
  intro y _
  unfold wless
  simp [Nat.mod_one]
theorem wsame_nine {v y : Nat} (hv : v < 257) (hy : y < 257) : wsame 9 v y = (y == v) := by
  unfold wsame
  rw [Nat.mod_eq_of_lt (by omega : y < 2 ^ 9), Nat.mod_eq_of_lt (by omega : v < 2 ^ 9)]
theorem wless_nine {v y : Nat} (hv : v < 257) (hy : y < 257) : wless 9 v y = decide (y < v) := by
  unfold wless
  rw [Nat.mod_eq_of_lt (by omega : y < 2 ^ 9), Nat.mod_eq_of_lt (by omega : v < 2 ^ 9)]
theorem wrank_nine {v : Nat} {xs : List Nat} (hv : v < 257) (hx : ∀ x, x ∈ xs → x < 257) (i : Nat) : wrank 9 v xs i = (xs.take i).count v := by
  unfold wrank List.count
  exact List.countP_congr fun y hy => by rw [wsame_nine hv (hx y (List.mem_of_mem_take hy))]
theorem wbef_nine {v : Nat} {xs : List Nat} (hv : v < 257) (hx : ∀ x, x ∈ xs → x < 257) : wbef 9 v xs = xs.countP fun y => decide (y < v) := by
  unfold wbef
  exact List.countP_congr fun y hy => by rw [wless_nine hv (hx y hy)]
end Go.Proofs.Ytdipgcbppggdhaa
