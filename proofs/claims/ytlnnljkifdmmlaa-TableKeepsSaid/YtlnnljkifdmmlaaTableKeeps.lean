/- TableKeeps holds: each table that was made stays, whatever comes after. No condition. -/
import Derived.Test.YtlnnljkifdmmlaaLs2
import Derived.Test.YtlnnljkifdmmlaaArg
namespace Go.Proofs.Ytlnnljkifdmmlaa.tableKeeps
open Go.ChangeShapes Go.WideShapes Go.ChangeAt Go.RowKit
set_option linter.unusedVariables false

/-- The first documents. -/
def E (ns : List Int) (k : Nat) : List (Int × Int) := (List.range k).map fun (i : Nat) => ((i : Int) + 1, ns.getD i 0)
theorem E_len (ns : List Int) (k : Nat) : (E ns k).length = k := by simp [E]
theorem E_get {ns : List Int} {k i : Nat} (h : i < k) : (E ns k)[i]? = some ((i : Int) + 1, ns.getD i 0) := by
  rw [E, List.getElem?_map, List.getElem?_range h]; rfl
theorem E_succ (ns : List Int) (k : Nat) : E ns (k + 1) = E ns k ++ [((k : Int) + 1, ns.getD k 0)] := by simp [E, List.range_succ]
theorem E_new (ns : List Int) (k : Nat) : Placed (E ns k) ((k : Int) + 1) 0 false := .inr ⟨rfl, rfl, fun i hi e => by
  rw [E_len] at hi
  rw [List.getD_eq_getElem?_getD, E_get hi] at e
  have e : (i : Int) + 1 = (k : Int) + 1 := e
  omega⟩
theorem E_cut {ns : List Int} {N j : Nat} (h : j < N) : Placed ((E ns N).drop j) ((j : Int) + 1) 0 true := .inl ⟨rfl, by simp [E_len]; omega, by
  rw [List.getD_eq_getElem?_getD, List.getElem?_drop, E_get (by omega)]; rfl, fun i hi => absurd hi (Nat.not_lt_zero _)⟩
theorem del_drop (l : List (Int × Int)) (j : Nat) : delL (l.drop j) 0 = l.drop (j + 1) := by
  simp [delL, List.drop_drop]
theorem docs_drop {l : List (Int × Int)} (h : Docs l) (j : Nat) : Docs (l.drop j) :=
  ⟨by have := h.1; simp; omega, fun p hp => h.2 p (List.mem_of_mem_drop hp)⟩
theorem docs_first {ns : List Int} {N k : Nat} (h : Docs (E ns N)) (hk : k ≤ N) : Docs (E ns k) :=
  ⟨by have := h.1; rw [E_len] at *; omega, fun p hp => by
    obtain ⟨i, hi, rfl⟩ := List.mem_map.1 hp
    exact h.2 _ (List.mem_map.2 ⟨i, by have := List.mem_range.1 hi; exact List.mem_range.2 (by omega), rfl⟩)⟩
/-- The handles of the tables of the first documents. -/
structure RS (s : Ar) (L : List Int) (ns : List Int) (j : Nat) (rs : List Int) : Prop where
  len : rs.length = j + 1
  lh : ∀ i, i ≤ j → Lh s (rs.getD i 0) (E ns i)
  has : ∀ i, i ≤ j → rs.getD i 0 ∈ L
theorem RS.ext {s s' : Ar} {L ns rs : List Int} {j : Nat} {g : Int} (h : RS s L ns j rs) (x : Ext s s') : RS s' (g :: L) ns j rs :=
  ⟨h.len, fun i hi => (h.lh i hi).ext x, fun i hi => List.mem_cons_of_mem _ (h.has i hi)⟩
theorem snoc_last {rs : List Int} {n : Nat} (g : Int) (h : rs.length = n) : (rs ++ [g]).getD n 0 = g := by subst h; simp [List.getD]
theorem snoc_old {rs : List Int} {i : Nat} (g : Int) (h : i < rs.length) : (rs ++ [g]).getD i 0 = rs.getD i 0 := by simp [List.getD, List.getElem?_append, h]
theorem RS.push {s : Ar} {L ns rs : List Int} {j : Nat} {g : Int} (h : RS s L ns j rs) (l : Lh s g (E ns (j + 1))) (hg : g ∈ L) : RS s L ns (j + 1) (rs ++ [g]) := by
  have hl := h.len
  refine ⟨by simp [hl], fun i hi => ?_, fun i hi => ?_⟩
  · by_cases e : i = j + 1
    · subst e; rw [snoc_last g hl]; exact l
    · rw [snoc_old g (by omega)]; exact h.lh i (by omega)
  · by_cases e : i = j + 1
    · subst e; rw [snoc_last g hl]; exact hg
    · rw [snoc_old g (by omega)]; exact h.has i (by omega)
theorem RS.one (s : Ar) (ns : List Int) : RS s [0] ns 0 [0] :=
  ⟨rfl, fun i hi => by
    obtain rfl : i = 0 := by omega
    exact Lh.nil _, fun i hi => by
    obtain rfl : i = 0 := by omega
    simp⟩
theorem lst_cell {w : World} {B : Nat} {K : Nat → Prop} {g n c : Nat} {xs : List Int} (h : Lst w B K (.slice (some ⟨g, 0, none⟩) n c) xs) {j : Nat} (hj : j < xs.length) : w.cell? ⟨g, j, none⟩ = some (.int .i64 (xs.getD j 0)) := by
  obtain ⟨g', c', e, _, _, hc⟩ := h.at_ hj
  injection e with e1
  injection e1 with e1
  injection e1 with e1
  subst e1
  exact hc j hj
def At1 (wx : World) (p : Nat) (ns : List Int) (j : Nat) (v : Value) (W : World) : Prop :=
  ∃ K s L rs, LS wx K p 800 j s L W ∧ Lst W wx.heap.size K v rs ∧ RS s L ns j rs ∧ Docs (E ns j) ∧ ∀ b, b < wx.heap.size → K b
def At2 (wx : World) (K : Nat → Prop) (p : Nat) (ns : List Int) (N : Nat) (rs : List Int) (v : Value) (j : Nat) (h : Int) (W : World) : Prop :=
  ∃ s L, LS wx K p 800 (N + j) s L W ∧ Lst W wx.heap.size K v rs ∧ RS s L ns N rs ∧ Lh s h ((E ns N).drop j) ∧ h ∈ L
set_option maxRecDepth 100000 in
set_option maxHeartbeats 8000000 in
theorem walk (v : Value) (ns : List Int) (w : World) (hx : IntsArg w v ns) :
    Calls Try.prog 9 #[v] w fun e w' => e = .returned (.bool true) ∧ Below w.heap.size w w' := by
  have HA := Lib.hid alive11
  obtain ⟨va, vc, rfl⟩ := hx.val
  have hl := hx.len
  unfold maxLen at hl
  have Hx := Lib.hid hx
  obtain ⟨N, hn⟩ : ∃ N, Hid (ns.length = N) := ⟨_, rfl⟩
  rw [hn.out] at hl ⊢
  clear hx
  by_cases h2 : 10 < N
  · have h2' : decide ((10 : Int) < (N : Int)) = true := decide_eq_true (by omega)
    go_enter Try.func9, Try.ntmps9
    go_wp2_with fail
    refine (HA.out _).mono ?_
    rintro e w1 ⟨rfl, hb⟩
    go_wp2_with fail
    go_ret
    exact ⟨rfl, hb⟩
  obtain ⟨K, hK⟩ : ∃ K : Nat → Prop, K = fun b => b < w.heap.size := ⟨_, rfl⟩
  have HK := Lib.hid hK
  clear hK
  go_enter Try.func9, Try.ntmps9
  go_wp2_with fail
  refine (HA.out _).mono ?_
  rintro e w1 ⟨rfl, hb⟩
  have Hk := Lib.hid (Kept.of_below hb K)
  clear hb
  go_wp2_with fail
  refine (new_yes 800 _ (by omega) (by omega)).mono ?_
  rintro e w2 ⟨p, rfl, hb, ha⟩
  replace ha := ha K (fun b h => by rw [HK.out] at h; have := Hk.out.size; omega)
  replace Hk := Lib.hid (Hk.out.trans (Kept.of_below hb K))
  clear hb
  have h0 : At1 w p ns 0 (.slice (some ⟨w2.heap.size, 0, none⟩) 1 1) (w2.alloc (.cells #[.int .i64 0] 3)) := ⟨_, Ar.new 800, [0], [0], ⟨ha.allocK _, ((good_new (by omega) (by omega)).mono (by omega)).zero, rfl, by show (0 : Int) ≤ _; omega, Kept.of_below ((Hk.out.below fun b hb => by rw [HK.out]; exact hb).alloc Hk.out.size _) _⟩, Lst.one 0 Hk.out.size, RS.one _ _, docs_nil, fun b hb => .inl (by rw [HK.out]; exact hb)⟩
  have H0 := Lib.hid h0
  clear h0 ha Hk HK
  go_wp2_with fail
  go_loopw [4, 28] (fun v k W => ∃ (j : Nat), k = .int .i64 j ∧ j ≤ N ∧ At1 w p ns j v W) (fun _ k _ => N - (intOf k).toNat)
  case atStart => exact ⟨0, rfl, by omega, H0.out⟩
  case round =>
    obtain ⟨j, rfl, j1, K', s, L, rs, hls, hli, hrs, hd, hk⟩ := hrel
    clear H0
    have Hls := Lib.hid hls
    have Hl := Lib.hid hli
    have Hrs := Lib.hid hrs
    have Hd := Lib.hid hd
    have HKp := Lib.hid hk
    clear hls hli hrs hd hk
    obtain ⟨g, c2, hv, hc2, hKg, _⟩ := Hl.out.at_ (i := j) (by rw [Hrs.out.len]; omega)
    rw [Hrs.out.len] at hv hc2
    subst hv
    have cg := lst_cell Hl.out (j := j) (by rw [Hrs.out.len]; omega)
    have r1 := Lib.hid (Hrs.out.lh j (Nat.le_refl _))
    have r2 := Lib.hid (Hrs.out.has j (Nat.le_refl _))
    generalize rs.getD j 0 = r at cg r1 r2
    by_cases hlt : j < N
    · obtain ⟨b, off, c, e, hbw, hc, hcell⟩ := Hx.out.cell j (by rw [hn.out]; exact hlt)
      have hva : va = some ⟨b, off, none⟩ := by injection e
      subst hva
      have hvc : N ≤ vc := by injection e with _ _ e; rw [e, ← hn.out]; exact hc
      have cm : wr.cell? ⟨b, off + j, none⟩ = some (.int .i64 (ns.getD j 0)) := (Hls.out.kept.cell hbw (HKp.out b hbw)).trans (hcell j (by rw [hn.out]; exact hlt))
      clear hcell e hc
      have hes := Lib.hid (E_succ ns j)
      generalize ns.getD j 0 = y at *
      by_cases hy : y < 0
      · go_wp2_with fail
        go_ret
        exact ⟨rfl, Hls.out.kept.below HKp.out⟩
      by_cases hy2 : 40 < y
      · go_wp2_with fail
        go_ret
        exact ⟨rfl, Hls.out.kept.below HKp.out⟩
      have H := Lib.hid (add_is (id := (j : Int) + 1) (len := y) (E_new ns j) (by omega) (by omega) (by omega) (by omega) (by rw [E_len]; omega) Hls.out.good (by omega) r1.out (.inr (.inl r2.out)) Hd.out (Hls.out.room (by omega)) Hls.out.ars)
      go_wp2_with fail
      refine H.out.mono ?_
      clear H
      rintro e w3 ⟨g3, s2, rfl, a3, k3, gg3, x3, l3, b3⟩
      have H3 := Lib.hid (Hls.out.made a3 k3 gg3 x3 b3)
      have L3 := Lib.hid (show Lh s2 g3 (E ns (j + 1)) by rw [hes.out]; exact l3)
      have D3 := Lib.hid (show Docs (E ns (j + 1)) by rw [hes.out]; exact docs_snoc Hd.out (by rw [E_len]; omega) (by omega) (by omega))
      have HR3 := Lib.hid (Hrs.out.ext (g := g3) x3)
      have HL4 := Lib.hid ((Hl.out.kept k3).kept ((Kept.refl K' w3).alloc (.cells #[.int .i64 g3] 3)))
      have H4 := Lib.hid (H3.out.below ((Below.refl _ _).alloc (Nat.le_refl _) (.cells #[.int .i64 g3] 3)))
      have HX := Lib.hid H4.out.ars.lt
      have HB := Lib.hid H4.out.kept.size
      have HLn := Lib.hid (show rs.length + 1 ≤ 1000000000 by have := Hrs.out.len; omega)
      clear a3 k3 gg3 x3 l3 b3
      go_wp2_with (at_builtin; refine wpList_append_lst HL4.out HX.out HB.out HLn.out rfl (.tmp 53) (.tmp 55) rfl rfl ⟨w3.heap.size, 0, none⟩ g3 1 rfl ?cell ?push)
      case cell => exact cell_new rfl rfl
      case push =>
        intro v' w7 K2 hp
        have HP := Lib.hid hp
        clear hp
        go_wp2_with fail
        go_roundw
        case rel => exact ⟨j + 1, by go_num, by omega, K2, s2, _, rs ++ [g3], H4.out.push HP.out HKp.out, HP.out.lst, HR3.out.push L3.out (by simp), D3.out, fun b hb => HP.out.more b (HKp.out b hb)⟩
        case measure => simp [intOf]; omega
    · obtain rfl : N = j := by omega
      as_aux_lemma =>
        have vl : IntKind.i64.wrap (((N + 1 : Nat) : Int) - 1) = (N : Int) := by rw [wrap_small (by omega) (by omega)]; omega
        have vl2 : IntKind.i64.wrap ((N : Int) + 1 - 1) = (N : Int) := by rw [wrap_small (by omega) (by omega)]; omega
        go_wp2_with fail
        have h1 : At2 w K' p ns N rs (.slice (some ⟨g, 0, none⟩) (N + 1) c2) 0 r wr := ⟨s, L, Hls.out, Hl.out, Hrs.out, r1.out, r2.out⟩
        have H1 := Lib.hid h1
        clear h1 Hls Hl Hrs r1 r2 vl vl2 cg
        go_loopw [9, 66] (fun h k W => ∃ (j : Nat) (hh : Int), h = .int .i64 hh ∧ k = .int .i64 j ∧ j ≤ N ∧ At2 w K' p ns N rs (.slice (some ⟨g, 0, none⟩) (N + 1) c2) j hh W) (fun _ k _ => N - (intOf k).toNat)
        case atStart => exact ⟨0, r, rfl, rfl, by omega, H1.out⟩
        case round =>
          obtain ⟨j, hh, rfl, rfl, jN, s, L, hls, hli, hrs, hlh, hm⟩ := hrel
          clear H1
          have Hls := Lib.hid hls
          have Hl := Lib.hid hli
          have Hrs := Lib.hid hrs
          have Hlh := Lib.hid hlh
          have Hm := Lib.hid hm
          clear hls hli hrs hlh hm
          by_cases hlt : j < N
          · have H := Lib.hid (cut_is (id := (j : Int) + 1) (E_cut hlt) Hls.out.good (by omega) Hlh.out (.inl Hm.out) (docs_drop Hd.out j) (Hls.out.room (by omega)) Hls.out.ars)
            go_wp2_with fail
            refine H.out.mono ?_
            clear H
            rintro e w3 ⟨g3, s2, rfl, a3, k3, gg3, x3, l3, b3⟩
            rw [del_drop] at l3
            have H3 := Lib.hid (Hls.out.made a3 k3 gg3 x3 b3)
            have L3 := Lib.hid l3
            have HR3 := Lib.hid (Hrs.out.ext (g := g3) x3)
            have HL3 := Lib.hid (Hl.out.kept k3)
            clear a3 k3 gg3 x3 l3 b3
            have hdl := Lib.hid (show ((E ns N).drop (j + 1)).length = N - (j + 1) by rw [List.length_drop, E_len])
            have H5 := Lib.hid (tlen_is hdl.out H3.out.good (by omega) L3.out (.inr (.inl (by simp))) (by omega) H3.out.ars)
            have v1 : IntKind.i64.wrap ((N : Int) - (j : Int)) = (N : Int) - j := wrap_small (by omega) (by omega)
            have v2 : IntKind.i64.wrap ((N : Int) - (j : Int) - 1) = ((N - (j + 1) : Nat) : Int) := by rw [wrap_small (by omega) (by omega)]; omega
            go_wp2_with fail
            refine H5.out.mono ?_
            clear H5
            rintro e w4 ⟨rfl, _, k4⟩
            have H4 := Lib.hid (H3.out.below k4)
            have HL4 := Lib.hid (HL3.out.kept (Kept.of_below k4 _))
            clear k4
            go_wp2_with fail
            go_roundw
            case rel => exact ⟨j + 1, g3, rfl, by go_num, by omega, s2, _, H4.out, HL4.out, HR3.out, L3.out, by simp⟩
            case measure => simp [intOf]; omega
          · obtain rfl : N = j := by omega
            have hz : hh = 0 := by
              have := Hlh.out
              rw [List.drop_eq_nil_of_le (by rw [E_len]; omega)] at this
              exact this.zero
            subst hz
            clear Hlh Hm
            have H9 := Lib.hid (show LS w K' p 800 (N + N) s L wr ∧ Lst wr w.heap.size K' (.slice (some ⟨g, 0, none⟩) (N + 1) c2) rs from ⟨Hls.out, Hl.out⟩)
            clear Hls Hl
            go_wp2_with fail
            go_loopw [13, 94] (fun t k W => ∃ (j : Nat) (T : Int), t = .int .i64 T ∧ k = .int .i64 j ∧ j ≤ N + 1 ∧ T = tot (E ns (j - 1)) ∧ LS w K' p 800 (N + N) s L W ∧ Lst W w.heap.size K' (.slice (some ⟨g, 0, none⟩) (N + 1) c2) rs) (fun _ k _ => N + 1 - (intOf k).toNat)
            case atStart => exact ⟨0, 0, rfl, rfl, by omega, rfl, H9.out.1, H9.out.2⟩
            case round =>
              obtain ⟨j, T, rfl, rfl, jN, hT, hls, hli⟩ := hrel
              clear H9
              have Hls := Lib.hid hls
              have Hl := Lib.hid hli
              have HT := Lib.hid hT
              clear hls hli hT
              by_cases hlt : j < N + 1
              · have cg := lst_cell Hl.out (j := j) (by rw [Hrs.out.len]; exact hlt)
                have r1 := Lib.hid (Hrs.out.lh j (by omega))
                have r2 := Lib.hid (Hrs.out.has j (by omega))
                generalize rs.getD j 0 = r at cg r1 r2
                have Dj := Lib.hid (docs_first Hd.out (show j ≤ N by omega))
                have H5 := Lib.hid (tlen_is (E_len ns j) Hls.out.good (by omega) r1.out (.inr (.inl r2.out)) (by omega) Hls.out.ars)
                have H6 := fun W hb => Lib.hid (total_is (w := W) (t := tot (E ns j)) rfl Hls.out.good (by omega) r1.out (.inr (.inl r2.out)) Dj.out (Hls.out.ars.below hb))
                obtain ⟨q1, q2⟩ := tot_bd (E ns (j - 1)) fun p hp => ((docs_first Hd.out (show j - 1 ≤ N by omega)).2 p hp).2
                rw [E_len, ← HT.out] at q2
                rw [← HT.out] at q1
                by_cases hj : j = 0
                · subst hj
                  obtain rfl : T = 0 := HT.out
                  go_wp2_with fail
                  refine H5.out.mono ?_
                  clear H5
                  rintro e w4 ⟨rfl, _, k4⟩
                  have K4 := Lib.hid k4
                  clear k4
                  go_wp2_with fail
                  refine (H6 _ K4.out).out.mono ?_
                  rintro e w5 ⟨rfl, k5⟩
                  have K5 := Lib.hid (K4.out.trans (k5.mono K4.out.size))
                  clear k5
                  go_wp2_with fail
                  go_roundw
                  case rel => exact ⟨1, 0, rfl, rfl, by omega, rfl, Hls.out.below K5.out, Hl.out.kept (Kept.of_below K5.out _)⟩
                  case measure => simp [intOf]
                · obtain ⟨m, rfl⟩ : ∃ m, j = m + 1 := ⟨j - 1, by omega⟩
                  obtain ⟨b, off, c, e, hbw, hc, hcell⟩ := Hx.out.cell m (by rw [hn.out]; omega)
                  have hva : va = some ⟨b, off, none⟩ := by injection e
                  subst hva
                  have hvc : N ≤ vc := by injection e with _ _ e; rw [e, ← hn.out]; exact hc
                  have cm : wr.cell? ⟨b, off + m, none⟩ = some (.int .i64 (ns.getD m 0)) := (Hls.out.kept.cell hbw (HKp.out b hbw)).trans (hcell m (by rw [hn.out]; omega))
                  clear hcell e hc
                  have hyr := (Hd.out.2 ((m : Int) + 1, ns.getD m 0) (List.mem_of_getElem? (E_get (ns := ns) (k := N) (i := m) (by omega)))).2
                  dsimp only at hyr
                  have hT2 := Lib.hid (show tot (E ns (m + 1)) = T + (ns.getD m 0 + 1) by rw [E_succ, tot_append, HT.out]; simp [tot])
                  rw [hT2.out] at H6
                  generalize hye : ns.getD m 0 = y at *
                  clear hye
                  obtain ⟨y1, y2⟩ := hyr
                  have v1 : IntKind.i64.wrap (((m + 1 : Nat) : Int) - 1) = (m : Int) := by rw [wrap_small (by omega) (by omega)]; omega
                  have v2 : IntKind.i64.wrap ((m : Int) + 1 - 1) = (m : Int) := by rw [wrap_small (by omega) (by omega)]; omega
                  have v3 : IntKind.i64.wrap (y + 1) = y + 1 := wrap_small (by omega) (by omega)
                  have v4 : IntKind.i64.wrap (T + (y + 1)) = T + (y + 1) := wrap_small (by omega) (by omega)
                  go_wp2_with fail
                  refine H5.out.mono ?_
                  clear H5
                  rintro e w4 ⟨rfl, _, k4⟩
                  have K4 := Lib.hid k4
                  clear k4
                  go_wp2_with fail
                  refine (H6 _ K4.out).out.mono ?_
                  rintro e w5 ⟨rfl, k5⟩
                  have K5 := Lib.hid (K4.out.trans (k5.mono K4.out.size))
                  clear k5
                  go_wp2_with fail
                  go_roundw
                  case rel => exact ⟨m + 1 + 1, T + (y + 1), rfl, by go_num, by omega, hT2.out.symm, Hls.out.below K5.out, Hl.out.kept (Kept.of_below K5.out _)⟩
                  case measure => simp [intOf]; omega
              · obtain rfl : j = N + 1 := by omega
                go_wp2_with fail
                go_ret
                exact ⟨rfl, Hls.out.kept.below HKp.out⟩

set_option maxRecDepth 100000 in
theorem lifted (os : Os) (started : os.Started) (H : Type) (enc : TypeId × Value → H) :
    ReturnsInHanded {} Try.checked os 9 .any (Rows.tableKeepsSpec.pre6 enc Try.prog Try.f9 Rows.tableKeepsRow.domain false) (Rows.tableKeepsSpec.post enc Try.prog Try.f9 false true false false) := by
  refine returnsInHanded_of_change (C := Try.checked) own_ started (by kernel_rfl) Try.func9
    (ChangeSpec.witness6 (enc := enc) (C := Try.checked) false ⟨#[], #[.slice none 0 0], []⟩ 8 (by kernel_rfl) (by kernel_rfl) (by kernel_rfl) (by kernel_rfl)) ?_
  intro W base args ds gs before hval0 hW _ _
  have hval : ∀ (j : Nat) t v, Try.f9.params[j]? = some t → args[j]? = some v → Value.okWide Try.prog W .any base t v := hval0
  have hW' := hW
  obtain ⟨p, q, hA0, hV, rfl, hfz, hnd⟩ := hW
  have hA : DataW.TrodAll enc Try.prog W 0 (fun _ => true) true Try.f9.params.toList args.toList ds p := hA0
  rw [Try.params9] at hA hval
  obtain ⟨v0, vs0, d0, ds0, p0, q0, hargs, rfl, rfl, h0, r0⟩ := trodAll_cons hA
  obtain ⟨rfl, rfl, rfl⟩ := trodAll_nil r0
  obtain rfl : args = #[v0] := by cases args; simp_all
  obtain ⟨x0, hx0⟩ := ints_arg (hval 0 35 v0 rfl rfl) h0
  clear hA0 hval0
  refine (walk v0 x0 W hx0).mono fun e W' ⟨he, hg⟩ => ?_
  subst he
  exact ⟨_, rfl, law_post laid_ (by kernel_rfl) rfl hW' hg rfl Try.underlying4 ⟨rfl, rfl, rfl⟩⟩

theorem over : Rows.tableKeepsRow.holds Try.pinned (OpenSpec.ofChange Rows.tableKeepsSpec) :=
  OpenClaim.holds_of_wide 9 Try.f9 rfl rfl rfl rfl rfl rfl rfl ⟨rfl, rfl, rfl, rfl, rfl⟩ rfl rfl rfl rfl rfl (by kernel_rfl) Try.func9 (by kernel_rfl)
    (of_decide_eq_true (by kernel_rfl)) (by unfold Func.isWrapper; first | (rw [if_pos (by decide +kernel)]; kernel_rfl) | (rw [if_neg (by decide +kernel)]; exact ⟨rfl, rfl⟩))
    (fun os started H enc _ => lifted os started H enc)

theorem proved : Rows.TableKeepsSaid :=
  over
#print axioms proved
end Go.Proofs.Ytlnnljkifdmmlaa.tableKeeps
