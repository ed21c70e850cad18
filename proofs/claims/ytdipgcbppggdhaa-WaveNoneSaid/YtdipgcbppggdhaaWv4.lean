/- Package wave: a symbol of a row. -/
import Derived.Test.YtdipgcbppggdhaaWv3
namespace Go.Proofs.Ytdipgcbppggdhaa
set_option maxRecDepth 100000
open Go.RowKit
theorem cnt_one (f : Nat → Bool) (one : Bool) : ∀ (ys : List Nat) (i : Nat), ((ys.map f).take i).count one = (ys.take i).countP fun y => f y == one
  | [], _ => by simp
  | y :: ys, 0 => rfl
  | y :: ys, i + 1 => by
    have := cnt_one f one ys i
    simp only [List.map_cons, List.take_succ_cons, List.count_cons, List.countP_cons, this]
theorem bit_eq (f : Nat → Bool) (ys : List Nat) : (ys.filter fun y => f y == true) = ys.filter f ∧ (ys.filter fun y => f y == false) = ys.filter fun y => !f y := by
  constructor
  · congr 1; funext y; cases f y <;> rfl
  · congr 1; funext y; cases f y <;> rfl
theorem half_step (R k : Nat) : R / 2 ^ k = 2 * (R / 2 ^ (k + 1)) + (if wb k R then 1 else 0) := by
  have e : R / 2 ^ (k + 1) = R / 2 ^ k / 2 := by rw [Nat.pow_succ, Nat.div_div_eq_div_mul]
  rw [e]
  unfold wb
  generalize R / 2 ^ k = m
  by_cases c : m % 2 = 1
  · rw [c]; simp; omega
  · have : m % 2 = 0 := by omega
    rw [this]; simp; omega
/-- What the place of a symbol is one level below. -/
theorem below_at {k R i : Nat} {ys : List Nat} (hi : i < ys.length) (hR : ys.getD i 0 = R) {one : Bool} (ho : wb k R = one) : ∃ m : Nat, m = ((ys.map (wb k)).take i).count one ∧ m ≤ i ∧ m < (ys.filter fun y => wb k y == one).length ∧ (ys.filter fun y => wb k y == one).getD m 0 = R := by
  obtain ⟨_, h2, h3⟩ := wDel_filter_yes (p := fun y => wb k y == one) hi (by show (wb k (ys.getD i 0) == one) = true; rw [hR, ho]; cases one <;> rfl)
  refine ⟨_, (cnt_one (wb k) one ys i).symm, ?_, h2, h3.trans hR⟩
  have := List.countP_le_length (p := fun y => wb k y == one) (l := ys.take i)
  rw [List.length_take] at this
  omega
def WGetJ (K : Nat → Prop) (p : Nat) (s : Ar) (L : List Int) (w : World) (R : Nat) (k : Nat) (a : Act) (W : World) : Prop :=
  ∃ (h : Int) (i : Nat) (ys : List Nat) (ac lv : Int) (u3 u4 u5 u10 u11 u12 u13 u14 u15 u16 u17 u18 u19 u20 u21 u22 u23 u24 u25 u26 u27 u28 u29 u30 u31 u32 u33 u34 u35 u36 u37 u38 u39 u40 u41 u42 u43 u44 u45 u46 u47 u48 u49 u50 u51 u52 u53 u54 u55 u56 u57 : Value), a = { tmps := #[.pointer (some ⟨p, 0, none⟩), .int .i64 h, .int .i64 (i : Int), u3, u4, u5, .int .i64 0, .bool false, .int .i64 ac, .int .i64 lv, u10, u11, u12, u13, u14, u15, u16, u17, u18, u19, u20, u21, u22, u23, u24, u25, u26, u27, u28, u29, u30, u31, u32, u33, u34, u35, u36, u37, u38, u39, u40, u41, u42, u43, u44, u45, u46, u47, u48, u49, u50, u51, u52, u53, u54, u55, u56, u57], defers := [] } ∧ ac = ((R / 2 ^ (k + 1) : Nat) : Int) ∧ lv = 8 - (k : Int) ∧ k ≤ 8 ∧ Ars W K p s ∧ Below w.heap.size w W ∧ WRep s (k + 1) h ys ∧ BFirm s L h ∧ i < ys.length ∧ ys.length ≤ 5000 ∧ ys.getD i 0 = R
section
variable {K : Nat → Prop} {p : Nat} {s : Ar} {L : List Int} {w : World} {h : Int} {xs : List Nat}
set_option maxRecDepth 100000 in
set_option maxHeartbeats 16000000 in
theorem wget_is {i : Nat} (g : Gd s L) (sn : Snd s) (hz : (0 : Int) ∈ L) (r : WRep s 9 h xs) (f : BFirm s L h) (hx : xs.length ≤ 5000) (hR : xs.getD i 0 < 257) (ha : Ars w K p s) (hi : i < xs.length) :
    Calls Try.prog 16 #[.pointer (some ⟨p, 0, none⟩), .int .i64 h, .int .i64 i] w fun e w' => e = .returned (.tuple #[.int .i64 (xs.getD i 0 : Nat), .bool true]) ∧ Below w.heap.size w w' := by
  have H0 := Lib.hid (wlen_is g sn hz r f hx ha)
  obtain ⟨R, hRe⟩ : ∃ R, R = xs.getD i 0 := ⟨_, rfl⟩
  rw [← hRe] at hR ⊢
  have hi1 : (i : Int) < (xs.length : Int) := by omega
  have hi2 : (xs.length : Int) ≤ 5000 := by omega
  have J0 := Lib.hid (fun (W : World) (hb : Below w.heap.size w W) => (show Ars W K p s ∧ Below w.heap.size w W ∧ WRep s (8 + 1) h xs ∧ BFirm s L h ∧ i < xs.length ∧ xs.length ≤ 5000 ∧ xs.getD i 0 = R from ⟨ha.below hb, hb, r, f, hi, hx, hRe.symm⟩))
  have G := Lib.hid g
  have SN := Lib.hid sn
  have HZ := Lib.hid hz
  have HR := Lib.hid hR
  have e9 : R / 2 ^ (8 + 1) = 0 := Nat.div_eq_of_lt (by omega)
  clear g sn hz r f hx ha hi hR hRe
  go_enter Try.func16, Try.ntmps16
  go_wp2_with fail
  refine wp_scope_ghost 0 (WGetJ K p s L w R) rfl ?pass ?first
  case first =>
    intro hp
    go_wp2_with fail
    refine H0.out.mono ?_
    rintro o w1 ⟨rfl, hk1⟩
    go_wp2_with fail
    go_step3
    rename_i K hK
    exact hK _ _ (hp.out 8 _ _ ⟨h, i, xs, _, _, _, _, _, _, _, _, _, _, _, _, _, _, _, _, _, _, _, _, _, _, _, _, _, _, _, _, _, _, _, _, _, _, _, _, _, _, _, _, _, _, _, _, _, _, _, _, _, _, _, _, _, rfl, by rw [e9]; rfl, by omega, by omega, J0.out _ hk1⟩)
  case pass =>
    clear H0 J0 hi1 hi2 e9
    rintro k a' W0 ⟨h', i', ys, ac, lv, u3, u4, u5, u10, u11, u12, u13, u14, u15, u16, u17, u18, u19, u20, u21, u22, u23, u24, u25, u26, u27, u28, u29, u30, u31, u32, u33, u34, u35, u36, u37, u38, u39, u40, u41, u42, u43, u44, u45, u46, u47, u48, u49, u50, u51, u52, u53, u54, u55, u56, u57, rfl, hac, hlv0, hk8, ha, hb, hr, hf, hi, hl, hR⟩
    obtain ⟨x, N⟩ := wnode G.out SN.out HZ.out hr hf hl
    have hhs := half_step R k
    have hRs : R / 2 ^ (k + 1) ≤ 257 := Nat.le_trans (Nat.div_le_self _ _) (by have := HR.out; omega)
    have hkI : (k : Int) ≤ 8 := by omega
    have HRow := Lib.hid (N.row ha)
    have HGet := fun W (ha : Ars W K p s) => fget_row (i := i') G.out SN.out N.bits ha (by rw [List.length_map]; exact hi)
    have eb : (ys.map (wb k)).getD i' false = wb k R := by
      rw [← hR]
      simp [List.getD, hi]
    rw [eb] at HGet
    replace HGet := fun W ha => Lib.hid (HGet W ha)
    obtain ⟨tag, k0, k1, k2, k3, A, B⟩ := x
    have Hb := Lib.hid hb
    have il := Lib.hid hi
    have HL := Lib.hid hl
    have yl : (ys.map (wb k)).length = ys.length := List.length_map ..
    obtain ⟨Q, hQ⟩ : ∃ Q, Q = R / 2 ^ (k + 1) := ⟨_, rfl⟩
    obtain ⟨P, hP⟩ : ∃ P, P = R / 2 ^ k := ⟨_, rfl⟩
    rw [← hQ, ← hP] at hhs
    rw [← hQ] at hRs hac
    have HAc := Lib.hid hac
    have HLv := Lib.hid hlv0
    have acI : ac ≤ 257 := by omega
    have acJ : 0 ≤ ac := by omega
    clear hac
    have HP := Lib.hid hP
    have HRR := Lib.hid hR
    have NN := Lib.hid N
    have ki : (i' : Int) ≤ 5000 := by omega
    clear hQ hP hb hr hf eb
    cases hbit : wb k R
    · skip
      rw [hbit] at HGet hhs
      obtain ⟨m, hm, hmi, hml, hmR⟩ := below_at il.out HRR.out hbit
      have HAl := fun W (ha : Ars W K p s) => Lib.hid (show Calls Try.prog 31 #[.pointer (some ⟨p, 0, none⟩), .int .i64 k0, .int .i64 (i' : Int), .bool false] W fun e w' => e = .returned (.int .i64 (m : Int)) ∧ Below W.heap.size W w' from by rw [hm]; exact alike_in (i := i') false G.out SN.out NN.out.bits (by rw [yl]; omega) (by rw [yl]; omega) ha)
      rw [(bit_eq (wb k) ys).2] at hml hmR
      have hPQ : (P : Int) = (2 * ac) := by
        have hq := HAc.out
        have : P = 2 * Q + (if false = true then 1 else 0) := hhs
        simp at this
        omega
      have HPQ := Lib.hid hPQ
      have HmL := Lib.hid (And.intro hml hmR)
      have hmI : (m : Int) ≤ 5000 := by omega
      clear hm hmi hml hmR hhs hPQ hbit N yl hi hl hR
      cases k with
      | zero =>
        obtain rfl : lv = 8 := by omega
        clear hlv0
        go_wp2_with fail
        refine HRow.out.mono ?_
        rintro o w1 ⟨⟨b, rfl⟩, ha1, hk1⟩
        have x1 := box7 (heap_alloc_new w1 (.cells #[.int .i64 tag, .int .i64 k0, .int .i64 k1, .int .i64 k2, .int .i64 k3, .int .u64 A, .int .u64 B] 47))
        have A1 := Lib.hid (ha1.alloc (.cells #[.int .i64 tag, .int .i64 k0, .int .i64 k1, .int .i64 k2, .int .i64 k3, .int .u64 A, .int .u64 B] 47))
        have B1a := Hb.out.trans (hk1.mono Hb.out.size)
        have B1 := Lib.hid (B1a.alloc B1a.size (.cells #[.int .i64 tag, .int .i64 k0, .int .i64 k1, .int .i64 k2, .int .i64 k3, .int .u64 A, .int .u64 B] 47))
        have X1 := Lib.hid x1
        obtain ⟨c0, c1, c2, c3, c4, c5, c6⟩ := x1
        clear ha1 hk1 B1a HRow ha
        go_wp2_with fail
        refine (HGet _ A1.out).out.mono ?_
        rintro o w2 ⟨rfl, hb⟩
        have A2 := Lib.hid (A1.out.below hb)
        have B2 := Lib.hid (B1.out.trans (hb.mono B1.out.size))
        have X2 := Lib.hid (box7_keep hb X1.out)
        have x2 := X2.out
        clear hb A1 B1 HGet c0 c1 c2 c3 c4 c5 c6 X1
        obtain ⟨c0, c1, c2, c3, c4, c5, c6⟩ := x2
        go_wp2_with fail
        refine (HAl _ A2.out).out.mono ?_
        rintro o w3 ⟨rfl, hb⟩
        have A3 := Lib.hid (A2.out.below hb)
        have B3 := Lib.hid (B2.out.trans (hb.mono B2.out.size))
        have x3 := box7_keep hb X2.out
        clear hb A2 B2 HAl c0 c1 c2 c3 c4 c5 c6 X2
        obtain ⟨c0, c1, c2, c3, c4, c5, c6⟩ := x3
        go_wp2_with fail
        refine (kid_is _ _ _ _ _ _ _ _ _).mono ?_
        rintro o w4 ⟨rfl, hb⟩
        have A4 := Lib.hid (A3.out.below hb)
        have B4 := Lib.hid (B3.out.trans (hb.mono B3.out.size))
        clear hb A3 B3 c0 c1 c2 c3 c4 c5 c6
        go_wp2_with fail
        simp only [Exit.jump]
        go_ret2
        have hp0 := HP.out
        rw [Nat.pow_zero, Nat.div_one] at hp0
        have hr0 : (R : Int) = (2 * ac) := by rw [← hp0]; exact HPQ.out
        exact ⟨by rw [hr0]; first | rfl | (rw [Int.mul_comm 2 ac]; rfl), B4.out⟩
      | succ k =>
        have lv1 : lv + 1 < 9 := by omega
        have lv2 : 0 ≤ lv := by omega
        clear hlv0
        go_wp2_with fail
        refine HRow.out.mono ?_
        rintro o w1 ⟨⟨b, rfl⟩, ha1, hk1⟩
        have x1 := box7 (heap_alloc_new w1 (.cells #[.int .i64 tag, .int .i64 k0, .int .i64 k1, .int .i64 k2, .int .i64 k3, .int .u64 A, .int .u64 B] 47))
        have A1 := Lib.hid (ha1.alloc (.cells #[.int .i64 tag, .int .i64 k0, .int .i64 k1, .int .i64 k2, .int .i64 k3, .int .u64 A, .int .u64 B] 47))
        have B1a := Hb.out.trans (hk1.mono Hb.out.size)
        have B1 := Lib.hid (B1a.alloc B1a.size (.cells #[.int .i64 tag, .int .i64 k0, .int .i64 k1, .int .i64 k2, .int .i64 k3, .int .u64 A, .int .u64 B] 47))
        have X1 := Lib.hid x1
        obtain ⟨c0, c1, c2, c3, c4, c5, c6⟩ := x1
        clear ha1 hk1 B1a HRow ha
        go_wp2_with fail
        refine (HGet _ A1.out).out.mono ?_
        rintro o w2 ⟨rfl, hb⟩
        have A2 := Lib.hid (A1.out.below hb)
        have B2 := Lib.hid (B1.out.trans (hb.mono B1.out.size))
        have X2 := Lib.hid (box7_keep hb X1.out)
        have x2 := X2.out
        clear hb A1 B1 HGet c0 c1 c2 c3 c4 c5 c6 X1
        obtain ⟨c0, c1, c2, c3, c4, c5, c6⟩ := x2
        go_wp2_with fail
        refine (HAl _ A2.out).out.mono ?_
        rintro o w3 ⟨rfl, hb⟩
        have A3 := Lib.hid (A2.out.below hb)
        have B3 := Lib.hid (B2.out.trans (hb.mono B2.out.size))
        have x3 := box7_keep hb X2.out
        clear hb A2 B2 HAl c0 c1 c2 c3 c4 c5 c6 X2
        obtain ⟨c0, c1, c2, c3, c4, c5, c6⟩ := x3
        go_wp2_with fail
        refine (kid_is _ _ _ _ _ _ _ _ _).mono ?_
        rintro o w4 ⟨rfl, hb⟩
        have A4 := Lib.hid (A3.out.below hb)
        have B4 := Lib.hid (B3.out.trans (hb.mono B3.out.size))
        clear hb A3 B3 c0 c1 c2 c3 c4 c5 c6
        go_wp2_with fail
        go_step3
        have hp0 := HP.out
        have hlv := HLv.out
        exact ⟨rfl, k, by omega, _, m, _, _, _, _, _, _, _, _, _, _, _, _, _, _, _, _, _, _, _, _, _, _, _, _, _, _, _, _, _, _, _, _, _, _, _, _, _, _, _, _, _, _, _, _, _, _, _, _, _, _, _, _, _, _, rfl, by rw [← hp0, HPQ.out]; first | rfl | omega, by omega, by omega, A4.out, B4.out, NN.out.zero, NN.out.fz, HmL.out.1, Nat.le_trans (List.length_filter_le _ _) HL.out, HmL.out.2⟩
    · skip
      rw [hbit] at HGet hhs
      obtain ⟨m, hm, hmi, hml, hmR⟩ := below_at il.out HRR.out hbit
      have HAl := fun W (ha : Ars W K p s) => Lib.hid (show Calls Try.prog 31 #[.pointer (some ⟨p, 0, none⟩), .int .i64 k0, .int .i64 (i' : Int), .bool true] W fun e w' => e = .returned (.int .i64 (m : Int)) ∧ Below W.heap.size W w' from by rw [hm]; exact alike_in (i := i') true G.out SN.out NN.out.bits (by rw [yl]; omega) (by rw [yl]; omega) ha)
      rw [(bit_eq (wb k) ys).1] at hml hmR
      have hPQ : (P : Int) = (2 * ac + 1) := by
        have hq := HAc.out
        have : P = 2 * Q + (if true = true then 1 else 0) := hhs
        simp at this
        omega
      have HPQ := Lib.hid hPQ
      have HmL := Lib.hid (And.intro hml hmR)
      have hmI : (m : Int) ≤ 5000 := by omega
      clear hm hmi hml hmR hhs hPQ hbit N yl hi hl hR
      cases k with
      | zero =>
        obtain rfl : lv = 8 := by omega
        clear hlv0
        go_wp2_with fail
        refine HRow.out.mono ?_
        rintro o w1 ⟨⟨b, rfl⟩, ha1, hk1⟩
        have x1 := box7 (heap_alloc_new w1 (.cells #[.int .i64 tag, .int .i64 k0, .int .i64 k1, .int .i64 k2, .int .i64 k3, .int .u64 A, .int .u64 B] 47))
        have A1 := Lib.hid (ha1.alloc (.cells #[.int .i64 tag, .int .i64 k0, .int .i64 k1, .int .i64 k2, .int .i64 k3, .int .u64 A, .int .u64 B] 47))
        have B1a := Hb.out.trans (hk1.mono Hb.out.size)
        have B1 := Lib.hid (B1a.alloc B1a.size (.cells #[.int .i64 tag, .int .i64 k0, .int .i64 k1, .int .i64 k2, .int .i64 k3, .int .u64 A, .int .u64 B] 47))
        have X1 := Lib.hid x1
        obtain ⟨c0, c1, c2, c3, c4, c5, c6⟩ := x1
        clear ha1 hk1 B1a HRow ha
        go_wp2_with fail
        refine (HGet _ A1.out).out.mono ?_
        rintro o w2 ⟨rfl, hb⟩
        have A2 := Lib.hid (A1.out.below hb)
        have B2 := Lib.hid (B1.out.trans (hb.mono B1.out.size))
        have X2 := Lib.hid (box7_keep hb X1.out)
        have x2 := X2.out
        clear hb A1 B1 HGet c0 c1 c2 c3 c4 c5 c6 X1
        obtain ⟨c0, c1, c2, c3, c4, c5, c6⟩ := x2
        go_wp2_with fail
        refine (HAl _ A2.out).out.mono ?_
        rintro o w3 ⟨rfl, hb⟩
        have A3 := Lib.hid (A2.out.below hb)
        have B3 := Lib.hid (B2.out.trans (hb.mono B2.out.size))
        have x3 := box7_keep hb X2.out
        clear hb A2 B2 HAl c0 c1 c2 c3 c4 c5 c6 X2
        obtain ⟨c0, c1, c2, c3, c4, c5, c6⟩ := x3
        go_wp2_with fail
        refine (kid_is _ _ _ _ _ _ _ _ _).mono ?_
        rintro o w4 ⟨rfl, hb⟩
        have A4 := Lib.hid (A3.out.below hb)
        have B4 := Lib.hid (B3.out.trans (hb.mono B3.out.size))
        clear hb A3 B3 c0 c1 c2 c3 c4 c5 c6
        go_wp2_with fail
        simp only [Exit.jump]
        go_ret2
        have hp0 := HP.out
        rw [Nat.pow_zero, Nat.div_one] at hp0
        have hr0 : (R : Int) = (2 * ac + 1) := by rw [← hp0]; exact HPQ.out
        exact ⟨by rw [hr0]; first | rfl | (rw [Int.mul_comm 2 ac]; rfl), B4.out⟩
      | succ k =>
        have lv1 : lv + 1 < 9 := by omega
        have lv2 : 0 ≤ lv := by omega
        clear hlv0
        go_wp2_with fail
        refine HRow.out.mono ?_
        rintro o w1 ⟨⟨b, rfl⟩, ha1, hk1⟩
        have x1 := box7 (heap_alloc_new w1 (.cells #[.int .i64 tag, .int .i64 k0, .int .i64 k1, .int .i64 k2, .int .i64 k3, .int .u64 A, .int .u64 B] 47))
        have A1 := Lib.hid (ha1.alloc (.cells #[.int .i64 tag, .int .i64 k0, .int .i64 k1, .int .i64 k2, .int .i64 k3, .int .u64 A, .int .u64 B] 47))
        have B1a := Hb.out.trans (hk1.mono Hb.out.size)
        have B1 := Lib.hid (B1a.alloc B1a.size (.cells #[.int .i64 tag, .int .i64 k0, .int .i64 k1, .int .i64 k2, .int .i64 k3, .int .u64 A, .int .u64 B] 47))
        have X1 := Lib.hid x1
        obtain ⟨c0, c1, c2, c3, c4, c5, c6⟩ := x1
        clear ha1 hk1 B1a HRow ha
        go_wp2_with fail
        refine (HGet _ A1.out).out.mono ?_
        rintro o w2 ⟨rfl, hb⟩
        have A2 := Lib.hid (A1.out.below hb)
        have B2 := Lib.hid (B1.out.trans (hb.mono B1.out.size))
        have X2 := Lib.hid (box7_keep hb X1.out)
        have x2 := X2.out
        clear hb A1 B1 HGet c0 c1 c2 c3 c4 c5 c6 X1
        obtain ⟨c0, c1, c2, c3, c4, c5, c6⟩ := x2
        go_wp2_with fail
        refine (HAl _ A2.out).out.mono ?_
        rintro o w3 ⟨rfl, hb⟩
        have A3 := Lib.hid (A2.out.below hb)
        have B3 := Lib.hid (B2.out.trans (hb.mono B2.out.size))
        have x3 := box7_keep hb X2.out
        clear hb A2 B2 HAl c0 c1 c2 c3 c4 c5 c6 X2
        obtain ⟨c0, c1, c2, c3, c4, c5, c6⟩ := x3
        go_wp2_with fail
        refine (kid_is _ _ _ _ _ _ _ _ _).mono ?_
        rintro o w4 ⟨rfl, hb⟩
        have A4 := Lib.hid (A3.out.below hb)
        have B4 := Lib.hid (B3.out.trans (hb.mono B3.out.size))
        clear hb A3 B3 c0 c1 c2 c3 c4 c5 c6
        go_wp2_with fail
        go_step3
        have hp0 := HP.out
        have hlv := HLv.out
        exact ⟨rfl, k, by omega, _, m, _, _, _, _, _, _, _, _, _, _, _, _, _, _, _, _, _, _, _, _, _, _, _, _, _, _, _, _, _, _, _, _, _, _, _, _, _, _, _, _, _, _, _, _, _, _, _, _, _, _, _, _, _, _, rfl, by rw [← hp0, HPQ.out]; first | rfl | omega, by omega, by omega, A4.out, B4.out, NN.out.one, NN.out.fo, HmL.out.1, Nat.le_trans (List.length_filter_le _ _) HL.out, HmL.out.2⟩
end
end Go.Proofs.Ytdipgcbppggdhaa
