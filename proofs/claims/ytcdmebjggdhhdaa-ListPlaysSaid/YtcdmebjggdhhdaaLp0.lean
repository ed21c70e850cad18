/- ListPlays, the walk's first stage: the loop over the operations; what a round and the end are left with are statements of their own. -/
import Derived.Test.YtcdmebjggdhhdaaGpP
import Derived.Test.YtcdmebjggdhhdaaGpM
import Derived.Deep.CutBlock
import Derived.Deep.DeepCutAuto
namespace Go.Proofs.Ytcdmebjggdhhdaa.listPlays
open Go.ChangeShapes Go.WideShapes Go.ChangeAt Go.RowKit
set_option linter.unusedVariables false
def opKs : List Lk := [.int .i64, .int .i64, .int .i64, .int .i64, .int .i64]
def At (w : World) (p j : Nat) (v1 v2 : Value) (W : World) : Prop := ∃ K k1 k2 s R ws V, PS w p j K k1 k2 s R ws V v1 v2 W
theorem at_ {w W : World} {p j : Nat} {K k1 k2 : Nat → Prop} {s : Ar} {R : List Int} {ws : List (List (Int × Int))} {V : List Value} {v1 v2 : Value} (h : PS w p j K k1 k2 s R ws V v1 v2 W) : At w p j v1 v2 W := ⟨_, _, _, _, _, _, _, h⟩
set_option maxRecDepth 100000 in
set_option maxHeartbeats 16000000 in
noncomputable def stage0 : PSigma fun T1 : Prop => PSigma fun T2 : Prop => (T1 → T2 → ∀ (n : Int) (w0 : (Lit.int .i64 n).wf = true) (v : Value) (m : Nat) (row : Nat → List Value) (w : World) (hx : FlatArg w v opKs m row),
    Calls Try.prog 4 #[.int .i64 n, v] w fun e w' => e = .returned (.bool true) ∧ Below w.heap.size w w') := by
  apply PSigma.mk
  apply PSigma.mk
  focus
    intro ST1 ST2
    replace ST1 := Lib.hid ST1
    replace ST2 := Lib.hid ST2
    intro n w0 v m row w hx
    have HA := Lib.hid alive10
    obtain ⟨va, vc, rfl⟩ := hx.val
    have hl := hx.len
    unfold maxLen at hl
    have Hx := Lib.hid hx
    clear hx
    by_cases h1 : n < 1
    · clear ST1 ST2
      go_enter Try.func4, Try.ntmps4
      go_wp2_with fail
      refine (HA.out w).mono ?_
      rintro e w1 ⟨rfl, hb⟩
      go_wp2_with fail
      go_ret
      exact ⟨rfl, hb⟩
    by_cases h2 : 500 < n
    · clear ST1 ST2
      go_enter Try.func4, Try.ntmps4
      go_wp2_with fail
      refine (HA.out w).mono ?_
      rintro e w1 ⟨rfl, hb⟩
      go_wp2_with fail
      go_ret
      exact ⟨rfl, hb⟩
    by_cases h3 : 100 < m
    · clear ST1 ST2
      have h3' : decide ((100 : Int) < (m : Int)) = true := by simp; omega
      go_enter Try.func4, Try.ntmps4
      go_wp2_with fail
      refine (HA.out w).mono ?_
      rintro e w1 ⟨rfl, hb⟩
      go_wp2_with fail
      go_ret
      exact ⟨rfl, hb⟩
    have h3' : decide ((100 : Int) < (m : Int)) = false := by simp; omega
    obtain ⟨N, rfl⟩ := Int.eq_ofNat_of_zero_le (show 0 ≤ n by omega)
    go_enter Try.func4, Try.ntmps4
    go_wp2_with fail
    refine (HA.out w).mono ?_
    rintro e w1 ⟨rfl, hb⟩
    have Hk := Lib.hid hb
    clear hb
    go_wp2_with fail
    refine (new_yes N _ (by omega) (by omega)).mono ?_
    rintro e w2 ⟨p, rfl, hb, ha⟩
    have ha := ha (fun b => b < w.heap.size) (fun b h => by have := Hk.out.size; omega)
    have h0 := at_ (ps_one (j := 0) ha (gd_new (by omega) (by omega)) (fun x h => h) (Hk.out.trans (hb.mono Hk.out.size)) (by show (0 : Int) - 0 ≤ _; omega) (by show N ≤ 500; omega))
    clear ha Hk hb
    go_wp2_with fail
    go_loopw [6, 7, 50] (fun v1 v2 i W => ∃ j : Nat, i = .int .i64 j ∧ j ≤ m ∧ At w p j v1 v2 W) (fun _ _ i _ => m - (intOf i).toNat)
    case atStart => exact ⟨0, rfl, by omega, h0⟩
    case round =>
      obtain ⟨j, rfl, j1, hat⟩ := hrel
      clear h0
      by_cases hlt : j < m
      · obtain ⟨ba, off, c, hv, hba, hmc, hcells⟩ := Hx.out.cell j hlt
        have hok := Hx.out.ok j hlt
        obtain ⟨K, k1, k2, s, R, ws, V, hs⟩ := hat
        obtain ⟨q, HL⟩ : ∃ q, Hid (R.length = q) := ⟨_, rfl⟩
        have hsl1 := hs.ids.slice
        have hsl2 := hs.want.slice
        rw [HL.out] at hsl1 hsl2
        obtain ⟨a1, c1, rfl⟩ := hsl1
        obtain ⟨a2, c2, rfl⟩ := hsl2
        have hcell := hcells j hlt
        obtain ⟨o0, e0, kd, rfl, wkd⟩ := hok.get (j := 0) rfl
        obtain ⟨o1, e1, rw, rfl, wrw⟩ := hok.get (j := 1) rfl
        obtain ⟨o2, e2, ii, rfl, wii⟩ := hok.get (j := 2) rfl
        obtain ⟨o3, e3, xa, rfl, wxa⟩ := hok.get (j := 3) rfl
        obtain ⟨o4, e4, xb, rfl, wxb⟩ := hok.get (j := 4) rfl
        cases hv
        have hbl : ∀ i, wr.cell? ⟨ba, off + i, none⟩ = w.cell? ⟨ba, off + i, none⟩ := fun i => hs.bel.cell (p := ⟨ba, off + i, none⟩) hba
        have y0 : wr.cell? ⟨ba, off + j * 5, none⟩ = some (.int .i64 kd) := (hbl _).trans ((hcell 0 (by decide)).trans e0)
        have y1 : wr.cell? ⟨ba, off + j * 5 + 1, none⟩ = some (.int .i64 rw) := (hbl _).trans ((hcell 1 (by decide)).trans e1)
        have y2 : wr.cell? ⟨ba, off + j * 5 + 2, none⟩ = some (.int .i64 ii) := (hbl _).trans ((hcell 2 (by decide)).trans e2)
        have y3 : wr.cell? ⟨ba, off + j * 5 + 3, none⟩ = some (.int .i64 xa) := (hbl _).trans ((hcell 3 (by decide)).trans e3)
        have y4 : wr.cell? ⟨ba, off + j * 5 + 4, none⟩ = some (.int .i64 xb) := (hbl _).trans ((hcell 4 (by decide)).trans e4)
        have Hlt := Lib.hid hlt
        have Hs0 := Lib.hid hs
        clear hcells hcell hok hbl e0 e1 e2 e3 e4 hlt hs
        go_upto_region 10 with fail
        clear ST2
        repeat (first | exact ST1.out | revert ‹_›)
      · have HJ := Lib.hid (show j = m by omega)
        clear hlt
        clear ST1
        repeat (first | exact ST2.out | revert ‹_›)
end Go.Proofs.Ytcdmebjggdhhdaa.listPlays
