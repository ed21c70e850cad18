/- ListMany holds: each of the lists that came one out of another holds its own numbers, each once. No condition. -/
import Derived.Test.YtlnnljkifdmmlaaSMap
import Derived.Test.YtlnnljkifdmmlaaArg
namespace Go.Proofs.Ytlnnljkifdmmlaa.listMany
open Go.ChangeShapes Go.WideShapes Go.ChangeAt Go.RowKit
set_option linter.unusedVariables false

/-- The list holds the numbers below k, each once. -/
structure LM (l : List (Int × Int)) (k : Nat) : Prop where
  len : l.length = k
  rg : ∀ p, p ∈ l → 0 ≤ p.1 ∧ p.1 < k ∧ p.2 = 1
  nd : (l.map Prod.fst).Nodup
theorem LM.nil : LM [] 0 := ⟨rfl, fun p h => by simp at h, by simp⟩
theorem LM.ins {l : List (Int × Int)} {k i : Nat} (h : LM l k) (hi : i ≤ k) : LM (insL l i ((k : Int), 1)) (k + 1) := by
  have hp : (insL l i ((k : Int), 1)).Perm (((k : Int), 1) :: l) := by
    unfold insL
    have := List.perm_middle (l₁ := l.take i) (l₂ := l.drop i) (a := ((k : Int), (1 : Int)))
    rwa [List.take_append_drop] at this
  refine ⟨by rw [hp.length_eq, List.length_cons, h.len], fun p hm => ?_, ?_⟩
  · rcases List.mem_cons.1 (hp.mem_iff.1 hm) with rfl | hm
    · exact ⟨by show 0 ≤ (k : Int); omega, by show (k : Int) < _; omega, rfl⟩
    · have := h.rg p hm; omega
  · rw [(hp.map Prod.fst).nodup_iff, List.map_cons, List.nodup_cons]
    refine ⟨fun hm => ?_, h.nd⟩
    obtain ⟨q, hq, e⟩ := List.mem_map.1 hm
    have := h.rg q hq
    dsimp only at e
    omega
/-- The numbers of the first items, the last one first. -/
def xs (l : List (Int × Int)) (i : Nat) : List Int := ((l.take i).map Prod.fst).reverse
theorem LM.at_ {l : List (Int × Int)} {k i : Nat} (h : LM l k) (hi : i < k) : (0 ≤ (l.getD i (0, 0)).1 ∧ (l.getD i (0, 0)).1 < k ∧ (l.getD i (0, 0)).2 = 1) ∧ ¬ (l.getD i (0, 0)).1 ∈ xs l i ∧ xs l (i + 1) = (l.getD i (0, 0)).1 :: xs l i := by
  have hl : i < l.length := by rw [h.len]; exact hi
  have e : l.getD i (0, 0) = l[i] := by rw [List.getD_eq_getElem?_getD, List.getElem?_eq_getElem hl]; rfl
  have e2 : l.take (i + 1) = l.take i ++ [l[i]] := by rw [List.take_add_one, List.getElem?_eq_getElem hl]; rfl
  rw [e]
  refine ⟨h.rg _ (List.getElem_mem hl), fun hm => ?_, by unfold xs; rw [e2, List.map_append, List.reverse_append]; rfl⟩
  have hn := h.nd
  rw [← List.take_append_drop (i + 1) l, List.map_append, e2, List.map_append] at hn
  have hn2 := (List.nodup_append.1 (List.nodup_append.1 hn).1).2.2
  exact hn2 _ (List.mem_reverse.1 hm) _ (by simp) rfl
theorem LM.Rg {l : List (Int × Int)} {k : Nat} (h : LM l k) (hk : k ≤ 60) : Rg l := fun p hp => by
  have := h.rg p hp
  exact ⟨⟨by omega, by omega⟩, by omega, by omega⟩
/-- The handles of the lists so far. -/
structure RS (s : Ar) (L : List Int) (j : Nat) (rs : List Int) : Prop where
  len : rs.length = j + 1
  lh : ∀ i, i ≤ j → ∃ l, Lh s (rs.getD i 0) l ∧ LM l i
  has : ∀ i, i ≤ j → rs.getD i 0 ∈ L
theorem RS.ext {s s' : Ar} {L rs : List Int} {j : Nat} {g : Int} (h : RS s L j rs) (x : Ext s s') : RS s' (g :: L) j rs :=
  ⟨h.len, fun i hi => by obtain ⟨l, a, b⟩ := h.lh i hi; exact ⟨l, a.ext x, b⟩, fun i hi => List.mem_cons_of_mem _ (h.has i hi)⟩
theorem snoc_last {rs : List Int} {n : Nat} (g : Int) (h : rs.length = n) : (rs ++ [g]).getD n 0 = g := by subst h; simp [List.getD]
theorem snoc_old {rs : List Int} {i : Nat} (g : Int) (h : i < rs.length) : (rs ++ [g]).getD i 0 = rs.getD i 0 := by simp [List.getD, List.getElem?_append, h]
theorem RS.push {s : Ar} {L rs : List Int} {j : Nat} {g : Int} {l : List (Int × Int)} (h : RS s L j rs) (hl' : Lh s g l) (hm : LM l (j + 1)) (hg : g ∈ L) : RS s L (j + 1) (rs ++ [g]) := by
  have hl := h.len
  refine ⟨by simp [hl], fun i hi => ?_, fun i hi => ?_⟩
  · by_cases e : i = j + 1
    · subst e; rw [snoc_last g hl]; exact ⟨l, hl', hm⟩
    · rw [snoc_old g (by omega)]; exact h.lh i (by omega)
  · by_cases e : i = j + 1
    · subst e; rw [snoc_last g hl]; exact hg
    · rw [snoc_old g (by omega)]; exact h.has i (by omega)
theorem RS.one (s : Ar) : RS s [0] 0 [0] :=
  ⟨rfl, fun i hi => by
    obtain rfl : i = 0 := by omega
    exact ⟨[], Lh.nil _, LM.nil⟩, fun i hi => by
    obtain rfl : i = 0 := by omega
    simp⟩
theorem lst_cell {w : World} {B : Nat} {K : Nat → Prop} {g n c : Nat} {xs : List Int} (h : Lst w B K (.slice (some ⟨g, 0, none⟩) n c) xs) {j : Nat} (hj : j < xs.length) : w.cell? ⟨g, j, none⟩ = some (.int .i64 (xs.getD j 0)) := by
  obtain ⟨g', c', e, _, _, hc⟩ := h.at_ hj
  injection e with e1
  injection e1 with e1
  injection e1 with e1
  subst e1
  exact hc j hj
def At1 (wx : World) (p : Nat) (j : Nat) (v : Value) (W : World) : Prop :=
  ∃ K s L rs, LS wx K p 4000 j s L W ∧ Lst W wx.heap.size K v rs ∧ RS s L j rs ∧ ∀ b, b < wx.heap.size → K b
set_option maxRecDepth 100000 in
set_option maxHeartbeats 8000000 in
theorem walk (n : Int) (w0 : (Lit.int .i64 n).wf = true) (a : Int) (w1 : (Lit.int .i64 a).wf = true) (w : World) :
    Calls Try.prog 4 #[.int .i64 n, .int .i64 a] w fun e w' => e = .returned (.bool true) ∧ Below w.heap.size w w' := by
  have HA := Lib.hid alive10
  by_cases h1 : n < 0
  · have h1' : decide (n < 0) = true := decide_eq_true h1
    go_enter Try.func4, Try.ntmps4
    go_wp2_with fail
    refine (HA.out _).mono ?_
    rintro e w1 ⟨rfl, hb⟩
    go_wp2_with fail
    go_ret
    exact ⟨rfl, hb⟩
  by_cases h2 : 60 < n
  · have h2' : decide (60 < n) = true := decide_eq_true h2
    go_enter Try.func4, Try.ntmps4
    go_wp2_with fail
    refine (HA.out _).mono ?_
    rintro e w1 ⟨rfl, hb⟩
    go_wp2_with fail
    go_ret
    exact ⟨rfl, hb⟩
  obtain ⟨N, rfl⟩ := Int.eq_ofNat_of_zero_le (show 0 ≤ n by omega)
  obtain ⟨K, hK⟩ : ∃ K : Nat → Prop, K = fun b => b < w.heap.size := ⟨_, rfl⟩
  have HK := Lib.hid hK
  clear hK
  go_enter Try.func4, Try.ntmps4
  go_wp2_with fail
  refine (HA.out _).mono ?_
  rintro e w1 ⟨rfl, hb⟩
  have Hk := Lib.hid (Kept.of_below hb K)
  clear hb
  go_wp2_with fail
  refine (new_yes 4000 _ (by omega) (by omega)).mono ?_
  rintro e w2 ⟨p, rfl, hb, ha⟩
  replace ha := ha K (fun b h => by rw [HK.out] at h; have := Hk.out.size; omega)
  replace Hk := Lib.hid (Hk.out.trans (Kept.of_below hb K))
  clear hb
  have h0 : At1 w p 0 (.slice (some ⟨w2.heap.size, 0, none⟩) 1 1) (w2.alloc (.cells #[.int .i64 0] 3)) := ⟨_, Ar.new 4000, [0], [0], ⟨ha.allocK _, ((good_new (by omega) (by omega)).mono (by omega)).zero, rfl, by show (0 : Int) ≤ _; omega, Kept.of_below ((Hk.out.below fun b hb => by rw [HK.out]; exact hb).alloc Hk.out.size _) _⟩, Lst.one 0 Hk.out.size, RS.one _, fun b hb => .inl (by rw [HK.out]; exact hb)⟩
  have H0 := Lib.hid h0
  clear h0 ha Hk HK
  go_wp2_with fail
  go_loopw [6, 7] (fun v k W => ∃ (j : Nat), k = .int .i64 j ∧ j ≤ N ∧ At1 w p j v W) (fun _ k _ => N - (intOf k).toNat)
  case atStart => exact ⟨0, rfl, by omega, H0.out⟩
  case round =>
    obtain ⟨j, rfl, j1, K', s, L, rs, hls, hli, hrs, hk⟩ := hrel
    clear H0
    have Hls := Lib.hid hls
    have Hl := Lib.hid hli
    have Hrs := Lib.hid hrs
    have HKp := Lib.hid hk
    clear hls hli hrs hk
    obtain ⟨g, c2, hv, hc2, hKg, hcl⟩ := Hl.out.at_ (i := j) (by rw [Hrs.out.len]; omega)
    have HKg := Lib.hid hKg
    clear hcl hKg
    rw [Hrs.out.len] at hv hc2
    subst hv
    have cg := lst_cell Hl.out (j := j) (by rw [Hrs.out.len]; omega)
    obtain ⟨l, hl1, hl2⟩ := Hrs.out.lh j (Nat.le_refl _)
    have r1 := Lib.hid hl1
    have r3 := Lib.hid hl2
    clear hl1 hl2
    have r2 := Lib.hid (Hrs.out.has j (Nat.le_refl _))
    generalize rs.getD j 0 = r at cg r1 r2
    by_cases hlt : j < N
    · obtain ⟨b1, b2, b3, b4⟩ := pick a ((j : Int) + 1) (by omega)
      obtain ⟨i, hi⟩ := Int.eq_ofNat_of_zero_le (show 0 ≤ (a.tmod ((j : Int) + 1) + j + 1) % ((j : Int) + 1) from Int.emod_nonneg _ (by omega))
      have hij : i ≤ j := by have := Int.emod_lt_of_pos (a.tmod ((j : Int) + 1) + j + 1) (show 0 < (j : Int) + 1 by omega); omega
      clear b1 b2
      have hlen := Lib.hid r3.out.len
      have v1 : IntKind.i64.wrap (a.tmod ((j : Int) + 1) + j) = a.tmod ((j : Int) + 1) + j := wrap_small (by omega) (by omega)
      have v2 : IntKind.i64.wrap (a.tmod ((j : Int) + 1) + j + 1) = a.tmod ((j : Int) + 1) + j + 1 := wrap_small (by omega) (by omega)
      have v3 : (a.tmod ((j : Int) + 1) + j + 1).tmod ((j : Int) + 1) = (i : Int) := by rw [Int.tmod_eq_emod_of_nonneg (by omega)]; exact hi
      have v4 : (j : Int) < (j : Int) + 1 := by omega
      have v5 : ¬ ((j : Int) + 1 = 0) := by omega
      have v6 : ((j : Int) + 1 == 0) = false := by simp; omega
      have v7 : IntKind.i64.wrap ((j : Int) + 1) = (j : Int) + 1 := wrap_small (by omega) (by omega)
      clear hi b3 b4
      have cgd := Lib.hid (show wr.drew.cell? ⟨g, j, none⟩ = some (.int .i64 r) from cg)
      have Hld := Lib.hid (Hls.out.below (Below.refl _ _).drew)
      have H := Lib.hid (insert_is (x := (j : Int)) (y := 1) (i := i) Hld.out.good (by omega) r1.out (.inr (.inl r2.out)) (by rw [hlen.out]; omega) (by rw [hlen.out]; exact hij) ⟨by omega, by omega⟩ ⟨by omega, by omega⟩ (Hld.out.room (by omega)) Hld.out.ars)
      go_upto_region 8 with fail
      go_cut [8, 9] (fun h e W => Made K' p s (1300 * j) L wr.drew (room l.length) (insL l i ((j : Int), 1)) (.returned (.tuple #[h, e])) W)
      case first =>
        go_region_held3 (fun w' => w'.cell? ⟨g, j, none⟩ = some (.int .i64 r)) (go_keep) (first | (go_at_call 13; refine H.out.mono ?_; rintro e w4 ⟨gg, s4, rfl, hm4⟩; have c4 : w4.cell? ⟨g, j, none⟩ = some (.int .i64 r) := kept_cell hm4.2.1 HKg.out cgd.out; have M4 := Lib.hid hm4; clear hm4) | fail)
        all_goals
          go_wp2_with fail
          go_meet
          case rel => exact ⟨_, _, rfl, M4.out⟩
      case rest =>
        clear H v1 v2 v3 v4 v5 v6 v7
        obtain ⟨g3, s2, he, a3, k3, gg3, x3, l3, b3⟩ := hcut
        injection he with he
        injection he with he
        injection he with he
        injection he with he1 he
        injection he with he2 he
        subst he1 he2
        clear he
        have H3 := Lib.hid (Hld.out.made a3 k3 gg3 x3 b3)
        have L3 := Lib.hid l3
        have M3 := Lib.hid (r3.out.ins hij)
        have HR3 := Lib.hid (Hrs.out.ext (g := g3) x3)
        have HL4 := Lib.hid ((Hl.out.kept ((Kept.refl K' _).drew.trans k3)).kept ((Kept.refl K' wc).alloc (.cells #[.int .i64 g3] 3)))
        have H4 := Lib.hid (H3.out.below ((Below.refl _ _).alloc (Nat.le_refl _) (.cells #[.int .i64 g3] 3)))
        have HX := Lib.hid H4.out.ars.lt
        have HB := Lib.hid H4.out.kept.size
        have HLn := Lib.hid (show rs.length + 1 ≤ 1000000000 by have := Hrs.out.len; omega)
        clear a3 k3 gg3 x3 l3 b3
        go_wp2_with (at_builtin; refine wpList_append_lst HL4.out HX.out HB.out HLn.out rfl (.tmp 56) (.tmp 58) rfl rfl ⟨wc.heap.size, 0, none⟩ g3 1 rfl ?cell ?push)
        case cell => exact cell_new rfl rfl
        case push =>
          intro v' w7 K2 hp
          have HP := Lib.hid hp
          clear hp
          go_wp2_with fail
          go_roundw
          case rel => exact ⟨j + 1, by go_num, by omega, K2, s2, _, rs ++ [g3], H4.out.push HP.out HKp.out, HP.out.lst, HR3.out.push L3.out M3.out (by simp), fun b hb => HP.out.more b (HKp.out b hb)⟩
          case measure => simp [intOf]; omega
    · obtain rfl : N = j := by omega
      as_aux_lemma =>
        clear r1 r2 r3 cg
        have H9 := Lib.hid (show LS w K' p 4000 N s L wr ∧ Lst wr w.heap.size K' (.slice (some ⟨g, 0, none⟩) (N + 1) c2) rs from ⟨Hls.out, Hl.out⟩)
        clear Hls Hl
        go_wp2_with fail
        go_loopw [62] (fun k W => ∃ j : Nat, k = .int .i64 j ∧ j ≤ N + 1 ∧ LS w K' p 4000 N s L W ∧ Lst W w.heap.size K' (.slice (some ⟨g, 0, none⟩) (N + 1) c2) rs) (fun k _ => N + 1 - (intOf k).toNat)
        case atStart => exact ⟨0, rfl, by omega, H9.out.1, H9.out.2⟩
        case round =>
          obtain ⟨j, rfl, jN, hls, hli⟩ := hrel
          clear H9
          have Hls := Lib.hid hls
          have Hl := Lib.hid hli
          clear hls hli
          obtain ⟨wo, rfl⟩ : ∃ wo : World, wo = wr := ⟨_, rfl⟩
          by_cases hlt : j < N + 1
          · have cg := lst_cell Hl.out (j := j) (by rw [Hrs.out.len]; exact hlt)
            obtain ⟨l, hl1, hl2⟩ := Hrs.out.lh j (by omega)
            have r1 := Lib.hid hl1
            have r3 := Lib.hid hl2
            clear hl1 hl2
            have r2 := Lib.hid (Hrs.out.has j (by omega))
            generalize rs.getD j 0 = r at cg r1 r2
            have Hm := Lib.hid (Hls.out.below ((Below.refl _ _).alloc (Nat.le_refl _) (.map #[] 0)))
            have hlen := Lib.hid r3.out.len
            have hmm := @run_makeMap Try.prog
            have H5 := Lib.hid (all_is Hm.out.good (by omega) r1.out (.inr (.inl r2.out)) (by rw [hlen.out]; omega) (r3.out.Rg (by omega)) Hm.out.ars)
            go_wp2_with fail
            refine H5.out.mono ?_
            rintro e w3 ⟨v, rfl, o3, k3⟩
            have S0 := Lib.hid ((SMap.new wo).below k3)
            have J := Lib.hid (Items.own o3)
            have B3 := Lib.hid (((Below.refl wo.heap.size wo).alloc (Nat.le_refl _) (.map #[] 0)).trans (k3.mono (by simp)))
            have hown := Lib.hid (show ∀ b, v.ownBlock = some b → b ≠ wo.heap.size from fun b hb => by
              rcases o3.2 with ⟨e, _⟩ | ⟨g', cap, cur, e, hg', _⟩
              · rw [e] at hb; cases hb
              · rw [e] at hb; cases hb; exact Nat.ne_of_gt (Nat.lt_of_lt_of_le (by simp) hg'))
            clear o3 k3 hmm
            obtain ⟨va, vc, rfl⟩ := J.out.val
            rw [hlen.out] at J hown ⊢
            go_wp2_with fail
            go_loopw [72] (fun k W => ∃ i : Nat, k = .int .i64 i ∧ i ≤ j ∧ SMap W wo.heap.size (xs l i) ∧ Below wo.heap.size wo W ∧ Kept (fun b => b ≠ wo.heap.size) w3 W) (fun k _ => j - (intOf k).toNat)
            case atStart => exact ⟨0, rfl, by omega, S0.out, B3.out, Kept.refl _ _⟩
            case round =>
              obtain ⟨i, rfl, ij, hS, hB, hK⟩ := hrel
              have HS := Lib.hid hS
              have HB := Lib.hid hB
              have HK := Lib.hid hK
              clear hS hB hK S0 B3
              by_cases hil : i < j
              · obtain ⟨b, off, c, e, hbw, hc, hcell⟩ := (J.out.kept HK.out hown.out).cell i (by rw [hlen.out]; exact hil)
                have hce := hcell i (by rw [hlen.out]; exact hil)
                have hva : va = some ⟨b, off, none⟩ := by injection e
                subst hva
                have hvc : j ≤ vc := by injection e with _ _ e; rw [e, ← hlen.out]; exact hc
                obtain ⟨c0, c1⟩ := hce
                obtain ⟨⟨y1, y2, y3⟩, hnew, hnext⟩ := r3.out.at_ hil
                have Hnew := Lib.hid hnew
                have Hnext := Lib.hid hnext
                clear hcell e hc hnew hnext
                generalize l.getD i (0, 0) = y at *
                obtain ⟨ya, yb⟩ := y
                dsimp only at c0 c1 y1 y2 y3 Hnew Hnext
                subst y3
                have wy : (Lit.int .i64 ya).wf = true := WalkArith.wf_i64 (by omega)
                have HS2 := Lib.hid (HS.out.below ((Below.refl wr.heap.size wr).alloc (Nat.le_refl _) (.cells #[.int .i64 ya, .int .i64 1] 24)))
                have hlk : (Instr.lookup 36 (.map (some wo.heap.size)) (.int .i64 ya) false).run Try.prog (wr.alloc (.cells #[.int .i64 ya, .int .i64 1] 24)) = .ok (.bool false) (wr.alloc (.cells #[.int .i64 ya, .int .i64 1] 24)) := by
                  rw [HS2.out.look wy, decide_eq_false Hnew.out]
                have hxl : (xs l i).length ≤ 1000000000 := by unfold xs; simp; omega
                have nb : wo.heap.size < wr.heap.size := HS.out.lt
                go_wp2_with (at_mapUpdate; refine wpList_smap_put HS2.out hxl rfl _ _ _ rfl rfl _ rfl rfl wy Hnew.out ?_)
                intro w5 hs5 hg5
                have HS5 := Lib.hid (show SMap w5 wo.heap.size (xs l (i + 1)) by rw [Hnext.out]; exact hs5)
                have HB5 := Lib.hid ((HB.out.alloc (Nat.le_of_lt nb) _).grown hg5 (by simp; omega) (fun k e => by cases e; exact Nat.le_refl _))
                have HK5 := Lib.hid ((HK.out.alloc _).grown hg5 (fun k e => by cases e; exact .inl (fun h => h rfl)))
                clear hs5 hg5 hlk
                go_wp2_with fail
                go_roundw
                case rel => exact ⟨i + 1, by go_num, by omega, HS5.out, HB5.out, HK5.out⟩
                case measure => simp [intOf]; omega
              · obtain rfl : j = i := by omega
                have hxl : (xs l j).length = j := by unfold xs; simp [hlen.out]
                obtain ⟨D, hD, _, _, hsz⟩ := HS.out
                rw [hxl] at hsz
                have Hls2 := Lib.hid (Hls.out.below HB.out)
                have H6 := Lib.hid (len_at hlen.out Hls2.out.good (by omega) r1.out (.inr (.inl r2.out)) (by omega) Hls2.out.ars)
                go_wp2_with (at_len; refine wpList_len_own _ rfl _ 36 rfl 3 4 Try.underlying36 _ _ _ D rfl hD ?_)
                refine H6.out.mono ?_
                rintro e w6 ⟨rfl, _, k6⟩
                have Hls3 := Lib.hid (Hls2.out.below k6)
                have Hl3 := Lib.hid ((Hl.out.kept (Kept.of_below HB.out _)).kept (Kept.of_below k6 _))
                clear k6
                go_wp2_with fail
                go_roundw
                case rel => exact ⟨j + 1, by go_num, by omega, Hls3.out, Hl3.out⟩
                case measure => simp [intOf]; omega
          · obtain rfl : j = N + 1 := by omega
            go_wp2_with fail
            go_ret
            exact ⟨rfl, Hls.out.kept.below HKp.out⟩

set_option maxRecDepth 100000 in
theorem lifted (os : Os) (started : os.Started) (H : Type) (enc : TypeId × Value → H) :
    ReturnsInHanded {} Try.checked os 4 .any (Rows.listManySpec.pre6 enc Try.prog Try.f4 Rows.listManyRow.domain false) (Rows.listManySpec.post enc Try.prog Try.f4 false true false false) := by
  refine returnsInHanded_of_change (C := Try.checked) own_ started (by kernel_rfl) Try.func4
    (ChangeSpec.witness6 (enc := enc) (C := Try.checked) false ⟨#[], #[.int .i64 0, .int .i64 0], []⟩ 8 (by kernel_rfl) (by kernel_rfl) (by kernel_rfl) (by kernel_rfl)) ?_
  intro W base args ds gs before hval0 hW _ _
  have hval : ∀ (j : Nat) t v, Try.f4.params[j]? = some t → args[j]? = some v → Value.okWide Try.prog W .any base t v := hval0
  have hW' := hW
  obtain ⟨p, q, hA0, hV, rfl, hfz, hnd⟩ := hW
  have hA : DataW.TrodAll enc Try.prog W 0 (fun _ => true) true Try.f4.params.toList args.toList ds p := hA0
  rw [Try.params4] at hA hval
  obtain ⟨v0, vs0, d0, ds0, p0, q0, hargs, rfl, rfl, h0, r0⟩ := trodAll_cons hA
  obtain ⟨v1, vs1, d1, ds1, p1, q1, rfl, rfl, rfl, h1, r1⟩ := trodAll_cons r0
  obtain ⟨rfl, rfl, rfl⟩ := trodAll_nil r1
  obtain rfl : args = #[v0, v1] := by cases args; simp_all
  obtain ⟨a0, rfl, rfl, rfl, w0⟩ := open_int Try.underlying3 (hval 0 3 v0 rfl rfl) h0
  obtain ⟨a1, rfl, rfl, rfl, w1⟩ := open_int Try.underlying3 (hval 1 3 v1 rfl rfl) h1
  clear hA0 hval0
  refine (walk a0 w0 a1 w1 W ).mono fun e W' ⟨he, hg⟩ => ?_
  subst he
  exact ⟨_, rfl, law_post laid_ (by kernel_rfl) rfl hW' hg rfl Try.underlying4 ⟨rfl, rfl, rfl⟩⟩

theorem over : Rows.listManyRow.holds Try.pinned (OpenSpec.ofChange Rows.listManySpec) :=
  OpenClaim.holds_of_wide 4 Try.f4 rfl rfl rfl rfl rfl rfl rfl ⟨rfl, rfl, rfl, rfl, rfl⟩ rfl rfl rfl rfl rfl (by kernel_rfl) Try.func4 (by kernel_rfl)
    (of_decide_eq_true (by kernel_rfl)) (by unfold Func.isWrapper; first | (rw [if_pos (by decide +kernel)]; kernel_rfl) | (rw [if_neg (by decide +kernel)]; exact ⟨rfl, rfl⟩))
    (fun os started H enc _ => lifted os started H enc)

theorem proved : Rows.ListManySaid :=
  over
#print axioms proved
end Go.Proofs.Ytlnnljkifdmmlaa.listMany
