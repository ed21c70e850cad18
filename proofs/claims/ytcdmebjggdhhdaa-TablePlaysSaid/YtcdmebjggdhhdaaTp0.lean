/- TablePlays, the walk's first stage: the loop over the operations; what a round and the end are left with are statements of their own. -/
import Derived.Test.YtcdmebjggdhhdaaGpT
import Derived.Test.YtcdmebjggdhhdaaRl
import Derived.Test.YtcdmebjggdhhdaaLaw
import Derived.Test.YtcdmebjggdhhdaaFlat
import Derived.Deep.CutBlock
import Derived.Deep.DeepCutAuto
namespace Go.Proofs.Ytcdmebjggdhhdaa.tablePlays
open Go.ChangeShapes Go.WideShapes Go.ChangeAt Go.RowKit
set_option linter.unusedVariables false
theorem wpOp_of {P : Program} {ops : Array Oper} {Q : Exit → Act → World → Prop} {i : Nat} {o : Oper} {K : Act → World → Prop} {a : Act} {w : World} (ho : ops[i]? = some o) (hw : Region.wanted o (yielded ops a.tmps) = true) (h : o.wp P a w K Q) : wpOp P ops Q i K a w := by
  unfold wpOp
  simp only [ho, hw, if_true]
  exact .inl h
theorem takeS {P : Program} {ops : Array Oper} {Q : Exit → Act → World → Prop} {S : World → Prop} {md : Region.Mode} {i : Nat} {oi : Oper} {v : Value} {d : Option Tmp} {fuel : Nat} {listed : Array Bool} {a : Act} {w : World} (hi : ops[i]? = some oi) (hd : oi.dst = d)
    (hs : Region.noSelect ops = true) (hf : Region.free md ops listed i = true) (hr : (Region.ready md ops listed).contains i = true)
    (hQ : ∀ c a w, Q (.panic c) (a.put d v) w → Q (.panic c) a w) (hw : Region.wanted oi (yielded ops a.tmps) = true) (hy : ∀ w, S w → (execOp a.eval oi).run P w = .ok (.value v) w) (hS : S w)
    (h : wpAnyH P md ops Q S fuel (listed.setIfInBounds i true) (a.put d v) w) : wpAnyH P md ops Q S (fuel + 1) listed a w := by
  subst hd
  exact wpAnyH_take hi hs hf hr hQ (.inl ⟨hw, hy⟩) hS h
theorem delL_len {α : Type} {l : List α} {k : Nat} (hk : k < l.length) : (delL l k).length + 1 = l.length := by
  unfold delL
  simp
  omega
def opKs : List Lk := [.int .i64, .int .i64, .int .i64]
def At (w : World) (p N j : Nat) (h v1 v2 : Value) (W : World) : Prop := ∃ hh K k1 k2 s l, h = .int .i64 hh ∧ TS w p j K k1 k2 s hh l v1 v2 W
theorem at_ {w W : World} {p N j : Nat} {K k1 k2 : Nat → Prop} {s : Ar} {hh : Int} {l : List (Int × Int)} {v1 v2 : Value} (h : TS w p j K k1 k2 s hh l v1 v2 W) : At w p N j (.int .i64 hh) v1 v2 W := ⟨_, _, _, _, _, _, rfl, h⟩
set_option maxRecDepth 100000 in
set_option maxHeartbeats 16000000 in
noncomputable def stage0 : PSigma fun T1 : Prop => PSigma fun T2 : Prop => PSigma fun T3 : Prop => (T1 → T2 → T3 → ∀ (n : Int) (w0 : (Lit.int .i64 n).wf = true) (v : Value) (m : Nat) (row : Nat → List Value) (w : World) (hx : FlatArg w v opKs m row),
    Calls Try.prog 5 #[.int .i64 n, v] w fun e w' => e = .returned (.bool true) ∧ Below w.heap.size w w') := by
  apply PSigma.mk
  apply PSigma.mk
  apply PSigma.mk
  focus
    intro ST1 ST2 ST3
    replace ST1 := Lib.hid ST1
    replace ST2 := Lib.hid ST2
    replace ST3 := Lib.hid ST3
    intro n w0 v m row w hx
    have HA := Lib.hid alive11
    obtain ⟨va, vc, rfl⟩ := hx.val
    have hl := hx.len
    unfold maxLen at hl
    have Hx := Lib.hid hx
    clear hx
    by_cases h1 : n < 1
    · skip
      go_enter Try.func5, Try.ntmps5
      go_wp2_with fail
      refine (HA.out w).mono ?_
      rintro e w1 ⟨rfl, hb⟩
      go_wp2_with fail
      go_ret
      exact ⟨rfl, hb⟩
    by_cases h2 : 200 < n
    · skip
      go_enter Try.func5, Try.ntmps5
      go_wp2_with fail
      refine (HA.out w).mono ?_
      rintro e w1 ⟨rfl, hb⟩
      go_wp2_with fail
      go_ret
      exact ⟨rfl, hb⟩
    by_cases h3 : 60 < m
    · have h3' : decide ((60 : Int) < (m : Int)) = true := by simp; omega
      go_enter Try.func5, Try.ntmps5
      go_wp2_with fail
      refine (HA.out w).mono ?_
      rintro e w1 ⟨rfl, hb⟩
      go_wp2_with fail
      go_ret
      exact ⟨rfl, hb⟩
    have h3' : decide ((60 : Int) < (m : Int)) = false := by simp; omega
    obtain ⟨N, rfl⟩ := Int.eq_ofNat_of_zero_le (show 0 ≤ n by omega)
    go_enter Try.func5, Try.ntmps5
    go_wp2_with fail
    refine (HA.out w).mono ?_
    rintro e w1 ⟨rfl, hb⟩
    have Hk := Lib.hid hb
    clear hb
    go_wp2_with fail
    refine (new_yes N _ (by omega) (by omega)).mono ?_
    rintro e w2 ⟨p, rfl, hb, ha⟩
    have ha := ha (fun b => b < w.heap.size) (fun b h => by have := Hk.out.size; omega)
    have h0 : At w p N 0 (.int .i64 0) (.slice none 0 0) (.slice none 0 0) w2 :=
      at_ (k1 := fun _ => False) (k2 := fun _ => False) (l := []) ⟨ha, (gd_new (by omega) (by omega)).zero, Lh.nil _, docs_nil, by decide, List.nodup_nil, Lst.nil _ _ _, Lst.nil _ _ _, fun x h => h.elim, fun x h => h.elim, fun x h => h, Hk.out.trans (hb.mono Hk.out.size), by show (0 : Int) - 0 ≤ _; omega, by show N ≤ 200; omega⟩
    clear ha Hk hb
    go_wp2_with fail
    go_loopw [6, 7, 8, 51] (fun h v1 v2 i W => ∃ j : Nat, i = .int .i64 j ∧ j ≤ m ∧ At w p N j h v1 v2 W) (fun _ _ _ i _ => m - (intOf i).toNat)
    case atStart => exact ⟨0, rfl, by omega, h0⟩
    case round =>
      obtain ⟨j, rfl, j1, hat⟩ := hrel
      clear h0
      by_cases hlt : j < m
      · obtain ⟨ba, off, c, hv, hba, hmc, hcells⟩ := Hx.out.cell j hlt
        have hok := Hx.out.ok j hlt
        obtain ⟨h, K, k1, k2, s, l, rfl, hs⟩ := hat
        obtain ⟨L, HL⟩ : ∃ L, Hid (l.length = L) := ⟨_, rfl⟩
        have hsl1 := hs.ids.slice
        have hsl2 := hs.lens.slice
        rw [List.length_map, HL.out] at hsl1 hsl2
        obtain ⟨a1, c1, rfl⟩ := hsl1
        obtain ⟨a2, c2, rfl⟩ := hsl2
        have hcell := hcells j hlt
        obtain ⟨o0, e0, kd, rfl, wkd⟩ := hok.get (j := 0) rfl
        obtain ⟨o1, e1, id, rfl, wid⟩ := hok.get (j := 1) rfl
        obtain ⟨o2, e2, nn, rfl, wnn⟩ := hok.get (j := 2) rfl
        cases hv
        have hbl : ∀ i, wr.cell? ⟨ba, off + i, none⟩ = w.cell? ⟨ba, off + i, none⟩ := fun i => hs.bel.cell (p := ⟨ba, off + i, none⟩) hba
        have c0 : wr.cell? ⟨ba, off + j * 3, none⟩ = some (.int .i64 kd) := (hbl _).trans ((hcell 0 (by decide)).trans e0)
        have c1 : wr.cell? ⟨ba, off + j * 3 + 1, none⟩ = some (.int .i64 id) := (hbl _).trans ((hcell 1 (by decide)).trans e1)
        have c2 : wr.cell? ⟨ba, off + j * 3 + 2, none⟩ = some (.int .i64 nn) := (hbl _).trans ((hcell 2 (by decide)).trans e2)
        have Hs := Lib.hid (hs.allocK (.cells #[.int .i64 kd, .int .i64 id, .int .i64 nn] 50))
        obtain ⟨K1, hK1⟩ : ∃ K1 : Nat → Prop, (fun x => K x ∨ x = wr.heap.size) = K1 := ⟨_, rfl⟩
        rw [hK1] at Hs
        have zK : Hid (K1 wr.heap.size) := by rw [← hK1]; exact .inr rfl
        clear hK1
        have hbx := heap_alloc_new wr (.cells #[.int .i64 kd, .int .i64 id, .int .i64 nn] 50)
        obtain ⟨k, bb, hp⟩ := placed_any l id
        have Hp := Lib.hid hp
        have HPl := Lib.hid (placed_plc hp hs.nd)
        have HPb := Lib.hid (plcTo_bd (l.map Prod.fst) id)
        have hL10 : L ≤ 10 := by rw [← HL.out]; exact hs.ten
        have Hids := Lib.hid Hs.out.ids
        have Hlt := Lib.hid hlt
        clear hs hcells hcell hok hbl e0 e1 e2 hp
        generalize hxs : l.map Prod.fst = xs at HPl HPb Hids
        have Hxl := Lib.hid (show xs.length = L by rw [← hxs, List.length_map]; exact HL.out)
        clear hxs
        go_upto_region 11 with fail
        generalize wr.alloc (.cells #[.int .i64 kd, .int .i64 id, .int .i64 nn] 50) = W1 at *
        generalize wr.heap.size = z at *
        have Hbx := Lib.hid hbx
        have d0 : W1.cell? ⟨z, 0, none⟩ = some (.int .i64 kd) := cell_of_row _ _ _ _ _ _ hbx
        have d1 : W1.cell? ⟨z, 1, none⟩ = some (.int .i64 id) := cell_of_row _ _ _ _ _ _ hbx
        have d2 : W1.cell? ⟨z, 2, none⟩ = some (.int .i64 nn) := cell_of_row _ _ _ _ _ _ hbx
        have zlt : z < W1.heap.size := lt_heap hbx
        clear c0 c1 c2 hbx
        go_wp2_with fail
        go_loopw [11, 57] (fun pl i W => ∃ u : Nat, i = .int .i64 (u : Int) ∧ u ≤ L ∧ pl = .int .i64 (plcTo xs id u) ∧ W = W1) (fun _ i _ => L - (intOf i).toNat)
        case atStart => exact ⟨0, rfl, Nat.zero_le _, rfl, rfl⟩
        case round =>
          obtain ⟨u, rfl, hu, rfl, rfl⟩ := hrel
          have Hpu := Lib.hid (show plcTo xs id (u + 1) = if xs.getD u 0 = id then (u : Int) else plcTo xs id u from rfl)
          obtain ⟨b1, b2⟩ := HPb.out u
          generalize hpu : plcTo xs id u = pu at Hpu b1 b2
          have HP0 := Lib.hid hpu
          clear hpu
          by_cases hul : u < L
          · obtain ⟨g, cp, hsl, hcp, hKg, hcl⟩ := Hids.out.at_ (i := u) (by rw [Hxl.out]; exact hul)
            have hcu := hcl u (by rw [Hxl.out]; exact hul)
            have hga : a1 = some ⟨g, 0, none⟩ := by injection hsl
            subst hga
            clear hsl hcl hcp
            generalize xs.getD u 0 = y at *
            by_cases hy : y = id
            · have hy' : (y == id) = true := by simpa using hy
              go_wp2_with fail
              go_roundw
              case rel => exact ⟨u + 1, by go_num, by omega, by rw [Hpu.out, if_pos hy], trivial⟩
              case measure => simp [intOf]; omega
            · have hy' : (y == id) = false := by simpa using hy
              have Hy := Lib.hid hy
              clear hy
              go_wp2_with fail
              go_roundw
              case rel => exact ⟨u + 1, by go_num, by omega, by rw [Hpu.out, if_neg Hy.out], trivial⟩
              case measure => simp [intOf]; omega
          · obtain rfl : L = u := by omega
            obtain ⟨pl, hpl⟩ : ∃ pl : Int, (if bb then (k : Int) else -1) = pl := ⟨_, rfl⟩
            have Hpl := Lib.hid hpl
            have hpp : pu = pl := by
              have h1 := HPl.out
              have h2 := HP0.out
              rw [HL.out, h2] at h1
              rw [h1]
              exact hpl
            subst hpp
            clear hpl
            obtain ⟨ub, hub⟩ : ∃ ub : Nat, s.busy = (ub : Int) := Int.eq_ofNat_of_zero_le Hs.out.gd.busy_le.1
            have ubI : (ub : Int) ≤ 200 := by have := Hs.out.gd.busy_le.2; have := Hs.out.n; omega
            have HU := Lib.hid (used_is hub Hs.out.ars)
            obtain ⟨pc, hpc⟩ : ∃ pc : Int, (s.wt.length : Int) = pc := ⟨_, rfl⟩
            have pc0 : 0 ≤ pc := by omega
            have HPn := Lib.hid (pending_is hpc Hs.out.ars)
            have pcI : pc ≤ 6000 := by have := (snd_fit (Hs.out.good (by omega))).l; omega
            have Hpc := Lib.hid hpc
            have Hub := Lib.hid hub
            clear hub hpc
            go_wp2_with fail
            refine HU.out.mono ?_
            rintro e w4 ⟨rfl, rfl⟩
            go_wp2_with fail
            refine HPn.out.mono ?_
            rintro e w4 ⟨rfl, rfl⟩
            clear HU HPn
            go_upto_block 4 with fail
            go_cut [6, 7, 8] (fun h v1 v2 W => At w p N (j + 1) h v1 v2 W)
            case first =>
              clear ST2 ST3
              repeat (first | exact ST1.out | revert ‹_›)
            case rest =>
              clear ST1 ST3
              repeat (first | exact ST2.out | revert ‹_›)
      · clear ST1 ST2
        repeat (first | exact ST3.out | revert ‹_›)
end Go.Proofs.Ytcdmebjggdhhdaa.tablePlays
