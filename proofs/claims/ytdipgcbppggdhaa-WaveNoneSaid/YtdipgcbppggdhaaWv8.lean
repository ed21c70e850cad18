/- Package wave: a symbol less, one level of it. -/
import Derived.Test.YtdipgcbppggdhaaWv6
namespace Go.Proofs.Ytdipgcbppggdhaa
set_option maxRecDepth 100000
open Go.RowKit
section
variable {w : World} {K : Nat → Prop} {p : Nat} {s s1 s2 s3 s4 : Ar} {h u e1 e3 e4 kb q : Int} {i lv m : Nat} {one b2 : Bool} {tag k0 k1 k2 k3 A B : Int}
set_option maxRecDepth 100000 in
set_option maxHeartbeats 8000000 in
theorem wcut_err (hlv : lv ≤ 8)
    (HRow : ∀ {w : World} {K : Nat → Prop} {p : Nat}, Ars w K p s → Calls Try.prog 29 #[.pointer (some ⟨p, 0, none⟩), .int .i64 h] w fun r w' => (∃ b : Bool, r = .returned (.tuple #[.agg #[.int .i64 tag, .int .i64 k0, .int .i64 k1, .int .i64 k2, .int .i64 k3, .int .u64 A, .int .u64 B], .bool b])) ∧ Ars w' K p s ∧ Below w.heap.size w w')
    (HBit : ∀ {w : World} {K : Nat → Prop} {p : Nat}, Ars w K p s → Calls Try.prog 35 #[.pointer (some ⟨p, 0, none⟩), .int .i64 k0, .int .i64 i] w fun e w' => e = .returned (.tuple #[.bool one, .bool b2]) ∧ Below w.heap.size w w')
    (HAl : ∀ {w : World} {K : Nat → Prop} {p : Nat}, Ars w K p s → Calls Try.prog 31 #[.pointer (some ⟨p, 0, none⟩), .int .i64 k0, .int .i64 i, .bool one] w fun e w' => e = .returned (.int .i64 m) ∧ Below w.heap.size w w')
    (HIn : ∀ {w : World} {K : Nat → Prop} {p : Nat}, Ars w K p s → Calls Try.prog 39 #[.pointer (some ⟨p, 0, none⟩), .int .i64 (if one then k2 else k1), .int .i64 m, .int .i64 ((lv : Int) + 1)] w fun o w' => o = .returned (.tuple #[.int .i64 u, .int .i64 e1]) ∧ Ars w' K p s1 ∧ Kept K w w')
    (h1 : e1 ≠ 0) (ha : Ars w K p s) :
    Calls Try.prog 39 #[.pointer (some ⟨p, 0, none⟩), .int .i64 h, .int .i64 i, .int .i64 lv] w fun o w' => o = .returned (.tuple #[.int .i64 0, .int .i64 e1]) ∧ Ars w' K p s1 ∧ Kept K w w' := by
  have ge : (e1 == 0) = false := by simpa using h1
  have gn : (e1 != 0) = true := by simpa using h1
  replace HRow := fun w K p ha => Lib.hid (@HRow w K p ha)
  replace HBit := fun w K p ha => Lib.hid (@HBit w K p ha)
  replace HAl := fun w K p ha => Lib.hid (@HAl w K p ha)
  obtain ⟨kk, hkk⟩ : ∃ kk : Int, kk = (if one then k2 else k1) := ⟨_, rfl⟩
  rw [← hkk] at HIn
  have HKid := fun w => Lib.hid (show Calls Try.prog 32 #[.agg #[.int .i64 tag, .int .i64 k0, .int .i64 k1, .int .i64 k2, .int .i64 k3, .int .u64 A, .int .u64 B], .bool one] w fun e w' => e = .returned (.int .i64 kk) ∧ Below w.heap.size w w' from by rw [hkk]; exact kid_is _ _ _ _ _ _ _ _ _)
  replace HIn := fun w K p ha => Lib.hid (@HIn w K p ha)
  clear hkk
  have Ha := Lib.hid ha
  have hlvI : (lv : Int) ≤ 8 := by omega
  have hwl : IntKind.i64.wrap ((lv : Int) + 1) = (lv : Int) + 1 := bwrap_small (by omega) (by omega)
  clear ha hlv
  go_enter Try.func39, Try.ntmps39
  go_wp2_with fail
  refine (HRow _ _ _ Ha.out).out.mono ?_
  rintro o w1 ⟨⟨b, rfl⟩, ha, hk⟩
  have BA := Lib.hid (hk.alloc hk.size (.cells #[.int .i64 tag, .int .i64 k0, .int .i64 k1, .int .i64 k2, .int .i64 k3, .int .u64 A, .int .u64 B] 47))
  have hxa := heap_alloc_new w1 (.cells #[.int .i64 tag, .int .i64 k0, .int .i64 k1, .int .i64 k2, .int .i64 k3, .int .u64 A, .int .u64 B] 47)
  have TA := Lib.hid (ha.alloc (.cells #[.int .i64 tag, .int .i64 k0, .int .i64 k1, .int .i64 k2, .int .i64 k3, .int .u64 A, .int .u64 B] 47))
  have hs1 := hk.size
  have XA := Lib.hid hxa
  obtain ⟨c0, c1, c2, c3, c4, c5, c6⟩ := box7 hxa
  clear ha hk hxa
  go_wp2_with fail
  refine (HBit _ _ _ TA.out).out.mono ?_
  rintro o wB ⟨rfl, hb⟩
  have hsb : w1.heap.size < wB.heap.size := Nat.lt_of_lt_of_le (lt_heap XA.out) hb.size
  have B2 := Lib.hid ((BA.out.trans (hb.mono BA.out.size)).alloc (Nat.le_trans BA.out.size hb.size) (.cells #[.int .i64 3, .int .i64 0, .int .i64 0, .int .i64 0, .int .i64 0, .int .u64 0, .int .u64 0] 47))
  have hx := (Below.heap_alloc wB (.cells #[.int .i64 3, .int .i64 0, .int .i64 0, .int .i64 0, .int .i64 0, .int .u64 0, .int .u64 0] 47) _ hsb).trans ((hb.block _ (lt_heap XA.out)).trans XA.out)
  have hy := heap_alloc_new wB (.cells #[.int .i64 3, .int .i64 0, .int .i64 0, .int .i64 0, .int .i64 0, .int .u64 0, .int .u64 0] 47)
  clear c0 c1 c2 c3 c4 c5 c6 hb TA BA XA
  go_upto_region 6 with fail
  have hz1 := lt_heap hx
  have hz2 := lt_heap hy
  have hzz : w1.heap.size ≠ wB.heap.size := by omega
  have hs2 : w.heap.size ≤ wB.heap.size := by omega
  clear hsb
  generalize wB.alloc (.cells #[.int .i64 3, .int .i64 0, .int .i64 0, .int .i64 0, .int .i64 0, .int .u64 0, .int .u64 0] 47) = w2 at *
  generalize wB.heap.size = z2 at *
  generalize w1.heap.size = z at *
  obtain ⟨K1, hK1⟩ : ∃ K1 : Nat → Prop, K1 = fun b => K b ∨ b = z ∨ b = z2 := ⟨_, rfl⟩
  have T2 := Lib.hid (Ha.out.newK (K' := K1) B2.out fun b hb => by
    rw [hK1] at hb
    rcases hb with hb | rfl | rfl
    · exact ⟨Nat.lt_of_lt_of_le (Ha.out.lt b hb) B2.out.size, .inl hb⟩
    · exact ⟨hz1, .inr hs1⟩
    · exact ⟨hz2, .inr hs2⟩)
  have kz := Lib.hid (show K1 z by rw [hK1]; exact .inr (.inl rfl))
  have kz2 := Lib.hid (show K1 z2 by rw [hK1]; exact .inr (.inr rfl))
  have hKK := Lib.hid (show ∀ b, K b → K1 b from fun b hb => by rw [hK1]; exact .inl hb)
  have KB := Lib.hid (Kept.of_below B2.out K)
  have HX := Lib.hid hx
  have HY := Lib.hid hy
  have Zs := Lib.hid (And.intro hs1 hs2)
  have s0 := box7 hx
  have S0 := Lib.hid s0
  have SZ := Lib.hid (And.intro hz1 hz2)
  clear hx hy hz1 hz2 hs1 hs2 hK1 B2 Ha HBit HRow
  go_cut [15, 16] (fun a b W => a = .int .i64 u ∧ b = .int .i64 e1 ∧ WDown K1 p s1 w2 W)
  case first =>
    rename_i Qx hl0 Kx h2 J0 K0 h1 h0
    clear h2
    clear_value Qx
    have H0 := Lib.hid h0
    have H1 := Lib.hid h1
    clear h0 h1
    go_region_held3 (fun w' => w'.cell? ⟨z, 0, none⟩ = some (.int .i64 tag) ∧ w'.cell? ⟨z, 1, none⟩ = some (.int .i64 k0) ∧ w'.cell? ⟨z, 2, none⟩ = some (.int .i64 k1) ∧ w'.cell? ⟨z, 3, none⟩ = some (.int .i64 k2) ∧ w'.cell? ⟨z, 4, none⟩ = some (.int .i64 k3) ∧ w'.cell? ⟨z, 5, none⟩ = some (.int .u64 A) ∧ w'.cell? ⟨z, 6, none⟩ = some (.int .u64 B)) (first | assumption | exact s0 | go_keep)
      ((first | (go_at_call 39; refine (HIn _ _ _ A4).out.mono ?_; rintro o w5 ⟨rfl, ha5, hk5⟩; have s5 := box7 ((hk5.block z (Nat.lt_of_lt_of_le SZ.out.1 B4.size) kz.out).trans ((B4.block z SZ.out.1).trans HX.out))) | (go_at_call 31; refine (HAl _ _ _ A3).out.mono ?_; rintro o w4 ⟨rfl, hb4⟩; have s4 := box7_keep hb4 (by assumption); have A4 := A3.below hb4; have B4 := B3.trans (hb4.mono B3.size)) | (go_at_call 32; refine (HKid _).out.mono ?_; rintro o w3 ⟨rfl, hb3⟩; have s3 := box7_keep hb3 (by assumption); have A3 := T2.out.drew.below hb3; have B3 := (Below.refl w2.heap.size w2).drew.trans hb3)))
    all_goals
      have h0 := H0.out
      have h1 := H1.out
      go_wp2_with fail
      go_meet
      case rel => exact ⟨rfl, rfl, ha5, (Kept.of_below B4 K1).trans hk5⟩
  case rest =>
    obtain ⟨rfl, rfl, hd⟩ := hcut
    clear S0 s0 HIn HAl
    go_wp2_with fail
    go_ret2
    exact ⟨rfl, hd.ars.more hKK.out, KB.out.trans (hd.kept.mono fun b _ h => hKK.out b h)⟩
set_option maxRecDepth 100000 in
set_option maxHeartbeats 8000000 in
theorem wcut_walk (hlv : lv ≤ 8)
    (HRow : ∀ {w : World} {K : Nat → Prop} {p : Nat}, Ars w K p s → Calls Try.prog 29 #[.pointer (some ⟨p, 0, none⟩), .int .i64 h] w fun r w' => (∃ b : Bool, r = .returned (.tuple #[.agg #[.int .i64 tag, .int .i64 k0, .int .i64 k1, .int .i64 k2, .int .i64 k3, .int .u64 A, .int .u64 B], .bool b])) ∧ Ars w' K p s ∧ Below w.heap.size w w')
    (HBit : ∀ {w : World} {K : Nat → Prop} {p : Nat}, Ars w K p s → Calls Try.prog 35 #[.pointer (some ⟨p, 0, none⟩), .int .i64 k0, .int .i64 i] w fun e w' => e = .returned (.tuple #[.bool one, .bool b2]) ∧ Below w.heap.size w w')
    (HAl : ∀ {w : World} {K : Nat → Prop} {p : Nat}, Ars w K p s → Calls Try.prog 31 #[.pointer (some ⟨p, 0, none⟩), .int .i64 k0, .int .i64 i, .bool one] w fun e w' => e = .returned (.int .i64 m) ∧ Below w.heap.size w w')
    (HIn : ∀ {w : World} {K : Nat → Prop} {p : Nat}, Ars w K p s → Calls Try.prog 39 #[.pointer (some ⟨p, 0, none⟩), .int .i64 (if one then k2 else k1), .int .i64 m, .int .i64 ((lv : Int) + 1)] w fun o w' => o = .returned (.tuple #[.int .i64 u, .int .i64 e1]) ∧ Ars w' K p s1 ∧ Kept K w w')
    (HKp : ∀ {w : World} {K : Nat → Prop} {p : Nat}, Ars w K p s1 → ∃ ek, Calls Try.prog 49 #[.pointer (some ⟨p, 0, none⟩), .int .i64 (if one then k1 else k2)] w fun o w' => o = .returned (.int .i64 ek) ∧ Ars w' K p s2 ∧ Kept K w w')
    (HBi : ∀ {w : World} {K : Nat → Prop} {p : Nat}, Ars w K p s2 → Calls Try.prog 53 #[.pointer (some ⟨p, 0, none⟩), .int .i64 k0, .int .i64 i] w fun o w' => o = .returned (.tuple #[.int .i64 kb, .int .i64 e3]) ∧ Ars w' K p s3 ∧ Kept K w w')
    (HMd : ∀ {w : World} {K : Nat → Prop} {p : Nat}, Ars w K p s3 → Calls Try.prog 51 #[.pointer (some ⟨p, 0, none⟩), .agg #[.int .i64 3, .int .i64 kb, .int .i64 (if one then k1 else u), .int .i64 (if one then u else k2), .int .i64 0, .int .u64 0, .int .u64 0], .int .i64 e3] w fun o w' => o = .returned (.tuple #[.int .i64 q, .int .i64 e4]) ∧ Ars w' K p s4 ∧ Kept K w w')
    (h1 : e1 = 0) (ha : Ars w K p s) :
    Calls Try.prog 39 #[.pointer (some ⟨p, 0, none⟩), .int .i64 h, .int .i64 i, .int .i64 lv] w fun o w' => o = .returned (.tuple #[.int .i64 q, .int .i64 e4]) ∧ Ars w' K p s4 ∧ Kept K w w' := by
  subst h1
  replace HRow := fun w K p ha => Lib.hid (@HRow w K p ha)
  replace HBit := fun w K p ha => Lib.hid (@HBit w K p ha)
  replace HAl := fun w K p ha => Lib.hid (@HAl w K p ha)
  obtain ⟨kk, hkk⟩ : ∃ kk : Int, kk = (if one then k2 else k1) := ⟨_, rfl⟩
  rw [← hkk] at HIn
  have HKid := fun w => Lib.hid (show Calls Try.prog 32 #[.agg #[.int .i64 tag, .int .i64 k0, .int .i64 k1, .int .i64 k2, .int .i64 k3, .int .u64 A, .int .u64 B], .bool one] w fun e w' => e = .returned (.int .i64 kk) ∧ Below w.heap.size w w' from by rw [hkk]; exact kid_is _ _ _ _ _ _ _ _ _)
  replace HIn := fun w K p ha => Lib.hid (@HIn w K p ha)
  clear hkk
  replace HKp := fun w K p ha => Lib.hid (@HKp w K p ha)
  replace HBi := fun w K p ha => Lib.hid (@HBi w K p ha)
  replace HMd := fun w K p ha => Lib.hid (@HMd w K p ha)
  have Ha := Lib.hid ha
  have hlvI : (lv : Int) ≤ 8 := by omega
  have hwl : IntKind.i64.wrap ((lv : Int) + 1) = (lv : Int) + 1 := bwrap_small (by omega) (by omega)
  clear ha hlv
  go_enter Try.func39, Try.ntmps39
  go_wp2_with fail
  refine (HRow _ _ _ Ha.out).out.mono ?_
  rintro o w1 ⟨⟨b, rfl⟩, ha, hk⟩
  have BA := Lib.hid (hk.alloc hk.size (.cells #[.int .i64 tag, .int .i64 k0, .int .i64 k1, .int .i64 k2, .int .i64 k3, .int .u64 A, .int .u64 B] 47))
  have hxa := heap_alloc_new w1 (.cells #[.int .i64 tag, .int .i64 k0, .int .i64 k1, .int .i64 k2, .int .i64 k3, .int .u64 A, .int .u64 B] 47)
  have TA := Lib.hid (ha.alloc (.cells #[.int .i64 tag, .int .i64 k0, .int .i64 k1, .int .i64 k2, .int .i64 k3, .int .u64 A, .int .u64 B] 47))
  have hs1 := hk.size
  have XA := Lib.hid hxa
  obtain ⟨c0, c1, c2, c3, c4, c5, c6⟩ := box7 hxa
  clear ha hk hxa
  go_wp2_with fail
  refine (HBit _ _ _ TA.out).out.mono ?_
  rintro o wB ⟨rfl, hb⟩
  have hsb : w1.heap.size < wB.heap.size := Nat.lt_of_lt_of_le (lt_heap XA.out) hb.size
  have B2 := Lib.hid ((BA.out.trans (hb.mono BA.out.size)).alloc (Nat.le_trans BA.out.size hb.size) (.cells #[.int .i64 3, .int .i64 0, .int .i64 0, .int .i64 0, .int .i64 0, .int .u64 0, .int .u64 0] 47))
  have hx := (Below.heap_alloc wB (.cells #[.int .i64 3, .int .i64 0, .int .i64 0, .int .i64 0, .int .i64 0, .int .u64 0, .int .u64 0] 47) _ hsb).trans ((hb.block _ (lt_heap XA.out)).trans XA.out)
  have hy := heap_alloc_new wB (.cells #[.int .i64 3, .int .i64 0, .int .i64 0, .int .i64 0, .int .i64 0, .int .u64 0, .int .u64 0] 47)
  clear c0 c1 c2 c3 c4 c5 c6 hb TA BA XA
  go_upto_region 6 with fail
  have hz1 := lt_heap hx
  have hz2 := lt_heap hy
  have hzz : w1.heap.size ≠ wB.heap.size := by omega
  have hs2 : w.heap.size ≤ wB.heap.size := by omega
  clear hsb
  generalize wB.alloc (.cells #[.int .i64 3, .int .i64 0, .int .i64 0, .int .i64 0, .int .i64 0, .int .u64 0, .int .u64 0] 47) = w2 at *
  generalize wB.heap.size = z2 at *
  generalize w1.heap.size = z at *
  obtain ⟨K1, hK1⟩ : ∃ K1 : Nat → Prop, K1 = fun b => K b ∨ b = z ∨ b = z2 := ⟨_, rfl⟩
  have T2 := Lib.hid (Ha.out.newK (K' := K1) B2.out fun b hb => by
    rw [hK1] at hb
    rcases hb with hb | rfl | rfl
    · exact ⟨Nat.lt_of_lt_of_le (Ha.out.lt b hb) B2.out.size, .inl hb⟩
    · exact ⟨hz1, .inr hs1⟩
    · exact ⟨hz2, .inr hs2⟩)
  have kz := Lib.hid (show K1 z by rw [hK1]; exact .inr (.inl rfl))
  have kz2 := Lib.hid (show K1 z2 by rw [hK1]; exact .inr (.inr rfl))
  have hKK := Lib.hid (show ∀ b, K b → K1 b from fun b hb => by rw [hK1]; exact .inl hb)
  have KB := Lib.hid (Kept.of_below B2.out K)
  have HX := Lib.hid hx
  have HY := Lib.hid hy
  have Zs := Lib.hid (And.intro hs1 hs2)
  have s0 := box7 hx
  have S0 := Lib.hid s0
  have SZ := Lib.hid (And.intro hz1 hz2)
  clear hx hy hz1 hz2 hs1 hs2 hK1 B2 Ha HBit HRow
  go_cut [15, 16] (fun a b W => a = .int .i64 u ∧ b = .int .i64 0 ∧ WDown K1 p s1 w2 W)
  case first =>
    rename_i Qx hl0 Kx h2 J0 K0 h1 h0
    clear h2
    clear_value Qx
    have H0 := Lib.hid h0
    have H1 := Lib.hid h1
    clear h0 h1
    go_region_held3 (fun w' => w'.cell? ⟨z, 0, none⟩ = some (.int .i64 tag) ∧ w'.cell? ⟨z, 1, none⟩ = some (.int .i64 k0) ∧ w'.cell? ⟨z, 2, none⟩ = some (.int .i64 k1) ∧ w'.cell? ⟨z, 3, none⟩ = some (.int .i64 k2) ∧ w'.cell? ⟨z, 4, none⟩ = some (.int .i64 k3) ∧ w'.cell? ⟨z, 5, none⟩ = some (.int .u64 A) ∧ w'.cell? ⟨z, 6, none⟩ = some (.int .u64 B)) (first | assumption | exact s0 | go_keep)
      ((first | (go_at_call 39; refine (HIn _ _ _ A4).out.mono ?_; rintro o w5 ⟨rfl, ha5, hk5⟩; have s5 := box7 ((hk5.block z (Nat.lt_of_lt_of_le SZ.out.1 B4.size) kz.out).trans ((B4.block z SZ.out.1).trans HX.out))) | (go_at_call 31; refine (HAl _ _ _ A3).out.mono ?_; rintro o w4 ⟨rfl, hb4⟩; have s4 := box7_keep hb4 (by assumption); have A4 := A3.below hb4; have B4 := B3.trans (hb4.mono B3.size)) | (go_at_call 32; refine (HKid _).out.mono ?_; rintro o w3 ⟨rfl, hb3⟩; have s3 := box7_keep hb3 (by assumption); have A3 := T2.out.drew.below hb3; have B3 := (Below.refl w2.heap.size w2).drew.trans hb3)))
    all_goals
      have h0 := H0.out
      have h1 := H1.out
      go_wp2_with fail
      go_meet
      case rel => exact ⟨rfl, rfl, ha5, (Kept.of_below B4 K1).trans hk5⟩
  case rest =>
    obtain ⟨rfl, rfl, hd⟩ := hcut
    have T3 := Lib.hid hd.ars
    have X3 := Lib.hid ((hd.kept.block z SZ.out.1 kz.out).trans HX.out)
    have Y3 := Lib.hid ((hd.kept.block z2 SZ.out.2 kz2.out).trans HY.out)
    have K3 := Lib.hid (KB.out.trans (hd.kept.mono fun b _ h => hKK.out b h))
    have zf : ∀ j, wc.frozen? ⟨z2, j, none⟩ = false := fun j => frozen_of_row _ _ _ _ _ Y3.out
    obtain ⟨c0, c1, c2, c3, c4, c5, c6⟩ := box7 X3.out
    obtain ⟨d0, d1, d2, d3, d4, d5, d6⟩ := box7 Y3.out
    have hzs := hzz.symm
    clear S0 s0 HIn HAl hd HX HY SZ T2 KB
    have E0 := Lib.hid (show Box2 wc z z2 k0 0 0 0 from ⟨c1, d0, d1, d2, d3, d4, d5, d6, zf⟩)
    cases one
    · go_upto_region 11 with fail
      have C3 := Lib.hid c3
      refine wp_region_noPanic ?_
      refine wp_region_held_drew (S := fun w' => w'.cell? ⟨z, 3, none⟩ = some (.int .i64 k2)) (by kernel_rfl) (by go_simp) (fun hHeld => ?_)
      refine takeS (i := 0) (d := some 65) (v := (.int .i64 u)) rfl rfl (by kernel_rfl) (by kernel_rfl) (by kernel_rfl) (fun _ _ _ h => h) (by rfl) (fun W hW => by rfl) hHeld ?_
      try simp only [Act.put, List.setIfInBounds_toArray, List.set_cons_zero, List.set_cons_succ]
      refine takeS (i := 4) (d := some 69) (v := (.pointer (some ⟨z2, 1, none⟩))) rfl rfl (by kernel_rfl) (by kernel_rfl) (by kernel_rfl) (fun _ _ _ h => h) (by rfl) (fun W hW => by rfl) hHeld ?_
      try simp only [Act.put, List.setIfInBounds_toArray, List.set_cons_zero, List.set_cons_succ]
      refine takeS (i := 7) (d := some 71) (v := (.pointer (some ⟨z2, 1, none⟩))) rfl rfl (by kernel_rfl) (by kernel_rfl) (by kernel_rfl) (fun _ _ _ h => h) (by rfl) (fun W hW => by rfl) hHeld ?_
      try simp only [Act.put, List.setIfInBounds_toArray, List.set_cons_zero, List.set_cons_succ]
      refine takeS (i := 1) (d := some 66) (v := (.pointer (some ⟨z, 1, none⟩))) rfl rfl (by kernel_rfl) (by kernel_rfl) (by kernel_rfl) (fun _ _ _ h => h) (by rfl) (fun W hW => by rfl) hHeld ?_
      try simp only [Act.put, List.setIfInBounds_toArray, List.set_cons_zero, List.set_cons_succ]
      refine takeS (i := 2) (d := some 67) (v := (.pointer (some ⟨z, 3, none⟩))) rfl rfl (by kernel_rfl) (by kernel_rfl) (by kernel_rfl) (fun _ _ _ h => h) (by rfl) (fun W hW => by rfl) hHeld ?_
      try simp only [Act.put, List.setIfInBounds_toArray, List.set_cons_zero, List.set_cons_succ]
      refine takeS (i := 3) (d := some 68) (v := (.int .i64 k2)) rfl rfl (by kernel_rfl) (by kernel_rfl) (by kernel_rfl) (fun _ _ _ h => h) (by rfl) (fun W hW => by go_simp) hHeld ?_
      try simp only [Act.put, List.setIfInBounds_toArray, List.set_cons_zero, List.set_cons_succ]
      refine takeS (i := 5) (d := some 70) (v := (.pointer (some ⟨z2, 2, none⟩))) rfl rfl (by kernel_rfl) (by kernel_rfl) (by kernel_rfl) (fun _ _ _ h => h) (by rfl) (fun W hW => by rfl) hHeld ?_
      try simp only [Act.put, List.setIfInBounds_toArray, List.set_cons_zero, List.set_cons_succ]
      refine wpAnyH_ready (rs := [6]) (by kernel_rfl) (by simp) ?_
      refine AllReadyH.cons rfl (fun K hK => ?_) AllReadyH.nil
      go_simp
      refine hK.out _ _ (by go_simp) (fun _ => ?_)
      clear hK K
      try simp only [Act.put, List.setIfInBounds_toArray, List.set_cons_zero, List.set_cons_succ]
      refine takeS (i := 8) (d := some 72) (v := (.pointer (some ⟨z2, 3, none⟩))) rfl rfl (by kernel_rfl) (by kernel_rfl) (by kernel_rfl) (fun _ _ _ h => h) (by rfl) (fun W hW => by rfl) (by go_simp) ?_
      try simp only [Act.put, List.setIfInBounds_toArray, List.set_cons_zero, List.set_cons_succ]
      refine wpAnyH_ready (rs := [9]) (by kernel_rfl) (by simp) ?_
      refine AllReadyH.cons rfl (fun K hK => ?_) AllReadyH.nil
      go_simp
      refine hK.out _ _ (by go_simp) (fun _ => ?_)
      clear hK K
      try simp only [Act.put, List.setIfInBounds_toArray, List.set_cons_zero, List.set_cons_succ]
      refine wpAnyH_done (by kernel_rfl) ?_ _
      try simp only [NoPanic, Exit.then]
      go_upto_region 12 with fail
      have E4 := Lib.hid (show Box2 (((((wc.setCell ⟨z2, 2, none⟩ (.int .i64 k1)).setCell ⟨z2, 3, none⟩ (.int .i64 u)).setCell ⟨z2, 2, none⟩ (.int .i64 u)).setCell ⟨z2, 3, none⟩ (.int .i64 k2)).drew) z z2 k0 0 u k2 from ((((E0.out.set2 hzz _).set3 hzz _).set2 hzz _).set3 hzz _).drew)
      have T4 := Lib.hid (show Ars (((((wc.setCell ⟨z2, 2, none⟩ (.int .i64 k1)).setCell ⟨z2, 3, none⟩ (.int .i64 u)).setCell ⟨z2, 2, none⟩ (.int .i64 u)).setCell ⟨z2, 3, none⟩ (.int .i64 k2)).drew) K1 p s1 from ((((T3.out.setCell kz2.out _).setCell kz2.out _).setCell kz2.out _).setCell kz2.out _).drew)
      have K4 := Lib.hid (show Kept K w (((((wc.setCell ⟨z2, 2, none⟩ (.int .i64 k1)).setCell ⟨z2, 3, none⟩ (.int .i64 u)).setCell ⟨z2, 2, none⟩ (.int .i64 u)).setCell ⟨z2, 3, none⟩ (.int .i64 k2)).drew) from ((((K3.out.setCell (.inr Zs.out.2) _).setCell (.inr Zs.out.2) _).setCell (.inr Zs.out.2) _).setCell (.inr Zs.out.2) _).drew)
      clear c0 c1 c2 c3 c4 c5 c6 d0 d1 d2 d3 d4 d5 d6 zf T3 K3 X3 Y3 E0
      generalize ((((wc.setCell ⟨z2, 2, none⟩ (.int .i64 k1)).setCell ⟨z2, 3, none⟩ (.int .i64 u)).setCell ⟨z2, 2, none⟩ (.int .i64 u)).setCell ⟨z2, 3, none⟩ (.int .i64 k2)).drew = w4 at *
      obtain ⟨x1, y0, y1, y2, y3, y4, y5, y6, yf⟩ := E4.out
      go_wp2_with fail
      refine (kid_is _ _ _ _ _ _ _ _ _).mono ?_
      rintro o w5 ⟨rfl, hb⟩
      have E5 := Lib.hid (E4.out.below hb)
      have T5 := Lib.hid (T4.out.below hb)
      have K5 := Lib.hid (K4.out.trans (Kept.of_below hb K))
      obtain ⟨ek, hq⟩ := (HKp _ _ _ T5.out).out
      replace hq := Lib.hid hq
      clear x1 y0 y1 y2 y3 y4 y5 y6 yf E4 T4 K4 hb HKp
      obtain ⟨x1, y0, y1, y2, y3, y4, y5, y6, yf⟩ := E5.out
      go_wp2_with fail
      refine hq.out.mono ?_
      rintro o w6 ⟨rfl, ha, hk⟩
      have E6 := Lib.hid (E5.out.kept hk kz.out kz2.out)
      have T6 := Lib.hid ha
      have K6 := Lib.hid (K5.out.trans (hk.mono fun b _ h => hKK.out b h))
      clear x1 y0 y1 y2 y3 y4 y5 y6 yf E5 T5 K5 ha hk hq
      obtain ⟨x1, y0, y1, y2, y3, y4, y5, y6, yf⟩ := E6.out
      go_wp2_with fail
      refine (HBi _ _ _ T6.out).out.mono ?_
      rintro o w7 ⟨rfl, ha, hk⟩
      have E7 := Lib.hid (E6.out.kept hk kz.out kz2.out)
      have T7 := Lib.hid (ha.setCell (q := ⟨z2, 1, none⟩) kz2.out (.int .i64 kb))
      have K7 := Lib.hid ((K6.out.trans (hk.mono fun b _ h => hKK.out b h)).setCell (p := ⟨z2, 1, none⟩) (.inr Zs.out.2) (.int .i64 kb))
      clear x1 y0 y1 y2 y3 y4 y5 y6 yf E6 T6 K6 ha hk HBi
      obtain ⟨x1, y0, y1, y2, y3, y4, y5, y6, yf⟩ := E7.out
      go_wp2_with fail
      refine (HMd _ _ _ T7.out).out.mono ?_
      rintro o w8 ⟨rfl, ha, hk⟩
      go_wp2_with fail
      go_ret2
      exact ⟨rfl, ha.more hKK.out, K7.out.trans (hk.mono fun b _ h => hKK.out b h)⟩
    · go_upto_region 12 with fail
      have E4 := Lib.hid (show Box2 ((wc.setCell ⟨z2, 2, none⟩ (.int .i64 k1)).setCell ⟨z2, 3, none⟩ (.int .i64 u)) z z2 k0 0 k1 u from (E0.out.set2 hzz _).set3 hzz _)
      have T4 := Lib.hid (show Ars ((wc.setCell ⟨z2, 2, none⟩ (.int .i64 k1)).setCell ⟨z2, 3, none⟩ (.int .i64 u)) K1 p s1 from (T3.out.setCell kz2.out _).setCell kz2.out _)
      have K4 := Lib.hid (show Kept K w ((wc.setCell ⟨z2, 2, none⟩ (.int .i64 k1)).setCell ⟨z2, 3, none⟩ (.int .i64 u)) from (K3.out.setCell (.inr Zs.out.2) _).setCell (.inr Zs.out.2) _)
      clear c0 c1 c2 c3 c4 c5 c6 d0 d1 d2 d3 d4 d5 d6 zf T3 K3 X3 Y3 E0
      generalize (wc.setCell ⟨z2, 2, none⟩ (.int .i64 k1)).setCell ⟨z2, 3, none⟩ (.int .i64 u) = w4 at *
      obtain ⟨x1, y0, y1, y2, y3, y4, y5, y6, yf⟩ := E4.out
      go_wp2_with fail
      refine (kid_is _ _ _ _ _ _ _ _ _).mono ?_
      rintro o w5 ⟨rfl, hb⟩
      have E5 := Lib.hid (E4.out.below hb)
      have T5 := Lib.hid (T4.out.below hb)
      have K5 := Lib.hid (K4.out.trans (Kept.of_below hb K))
      obtain ⟨ek, hq⟩ := (HKp _ _ _ T5.out).out
      replace hq := Lib.hid hq
      clear x1 y0 y1 y2 y3 y4 y5 y6 yf E4 T4 K4 hb HKp
      obtain ⟨x1, y0, y1, y2, y3, y4, y5, y6, yf⟩ := E5.out
      go_wp2_with fail
      refine hq.out.mono ?_
      rintro o w6 ⟨rfl, ha, hk⟩
      have E6 := Lib.hid (E5.out.kept hk kz.out kz2.out)
      have T6 := Lib.hid ha
      have K6 := Lib.hid (K5.out.trans (hk.mono fun b _ h => hKK.out b h))
      clear x1 y0 y1 y2 y3 y4 y5 y6 yf E5 T5 K5 ha hk hq
      obtain ⟨x1, y0, y1, y2, y3, y4, y5, y6, yf⟩ := E6.out
      go_wp2_with fail
      refine (HBi _ _ _ T6.out).out.mono ?_
      rintro o w7 ⟨rfl, ha, hk⟩
      have E7 := Lib.hid (E6.out.kept hk kz.out kz2.out)
      have T7 := Lib.hid (ha.setCell (q := ⟨z2, 1, none⟩) kz2.out (.int .i64 kb))
      have K7 := Lib.hid ((K6.out.trans (hk.mono fun b _ h => hKK.out b h)).setCell (p := ⟨z2, 1, none⟩) (.inr Zs.out.2) (.int .i64 kb))
      clear x1 y0 y1 y2 y3 y4 y5 y6 yf E6 T6 K6 ha hk HBi
      obtain ⟨x1, y0, y1, y2, y3, y4, y5, y6, yf⟩ := E7.out
      go_wp2_with fail
      refine (HMd _ _ _ T7.out).out.mono ?_
      rintro o w8 ⟨rfl, ha, hk⟩
      go_wp2_with fail
      go_ret2
      exact ⟨rfl, ha.more hKK.out, K7.out.trans (hk.mono fun b _ h => hKK.out b h)⟩
end
end Go.Proofs.Ytdipgcbppggdhaa
