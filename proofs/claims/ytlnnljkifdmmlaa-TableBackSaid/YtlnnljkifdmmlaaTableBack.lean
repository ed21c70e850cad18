/- TableBack holds: documents stand in the order in which they were added; one that is taken out, and added again, stands last. No condition. -/
import Derived.Test.YtlnnljkifdmmlaaT1
import Derived.Test.YtlnnljkifdmmlaaArg
namespace Go.Proofs.Ytlnnljkifdmmlaa.tableBack
open Go.ChangeShapes Go.WideShapes Go.ChangeAt Go.RowKit
set_option linter.unusedVariables false

theorem placed_none {l : List (Int × Int)} {id : Int} (h : ∀ p, p ∈ l → p.1 ≠ id) : Placed l id 0 false := .inr ⟨rfl, rfl, fun i hi e => by
  rw [List.getD_eq_getElem?_getD, List.getElem?_eq_getElem hi] at e
  exact h _ (List.getElem_mem hi) e⟩
theorem placed_last {l : List (Int × Int)} {id x : Int} {k : Nat} (hk : l.length = k) (h : ∀ p, p ∈ l → p.1 ≠ id) : Placed (l ++ [(id, x)]) id k true := by
  subst hk
  refine .inl ⟨rfl, by simp, by simp [List.getD], fun i hi e => ?_⟩
  rw [List.getD_eq_getElem?_getD, List.getElem?_append_left hi, List.getElem?_eq_getElem hi] at e
  exact h _ (List.getElem_mem hi) e
theorem mem_del {α : Type} {l : List α} {k : Nat} {p : α} (h : p ∈ delL l k) : ∃ i, i ≠ k ∧ l[i]? = some p := by
  unfold delL at h
  rcases List.mem_append.1 h with h | h
  · obtain ⟨i, hi, rfl⟩ := List.getElem_of_mem h
    rw [List.length_take] at hi
    exact ⟨i, by omega, by rw [List.getElem_take]; exact List.getElem?_eq_getElem (by omega)⟩
  · obtain ⟨i, hi, rfl⟩ := List.getElem_of_mem h
    rw [List.length_drop] at hi
    exact ⟨k + 1 + i, by omega, by rw [List.getElem_drop]; exact List.getElem?_eq_getElem (by omega)⟩
theorem tot_del : ∀ (l : List (Int × Int)) (k : Nat), k < l.length → tot (delL l k) + ((l.getD k (0, 0)).2 + 1) = tot l
  | [], k, h => absurd h (Nat.not_lt_zero _)
  | a :: r, 0, _ => by show tot r + (a.2 + 1) = a.2 + 1 + tot r; omega
  | a :: r, k + 1, h => by
    have := tot_del r k (by simpa using h)
    show a.2 + 1 + tot (delL r k) + ((r.getD k (0, 0)).2 + 1) = a.2 + 1 + tot r
    omega
/-- The first documents. -/
def E (ns : List Int) (k : Nat) : List (Int × Int) := (List.range k).map fun (i : Nat) => (10 + (i : Int), ns.getD i 0)
theorem E_len (ns : List Int) (k : Nat) : (E ns k).length = k := by simp [E]
theorem E_get {ns : List Int} {k i : Nat} (h : i < k) : (E ns k)[i]? = some (10 + (i : Int), ns.getD i 0) := by
  rw [E, List.getElem?_map, List.getElem?_range h]; rfl
theorem E_at {ns : List Int} {k i : Nat} (h : i < k) : (E ns k).getD i (0, 0) = (10 + (i : Int), ns.getD i 0) := by
  rw [List.getD_eq_getElem?_getD, E_get h]; rfl
theorem E_succ (ns : List Int) (k : Nat) : E ns (k + 1) = E ns k ++ [(10 + (k : Int), ns.getD k 0)] := by simp [E, List.range_succ]
theorem E_new (ns : List Int) (k : Nat) : Placed (E ns k) (10 + (k : Int)) 0 false := placed_none fun p hp => by
  obtain ⟨i, hi, rfl⟩ := List.mem_map.1 hp
  have := List.mem_range.1 hi
  show 10 + (i : Int) ≠ _
  omega
theorem E_old {ns : List Int} {N k : Nat} (h : k < N) : Placed (E ns N) (10 + (k : Int)) k true := .inl ⟨rfl, by rw [E_len]; exact h, by rw [E_at h], fun i hi e => by
  rw [E_at (by omega)] at e
  have e : 10 + (i : Int) = 10 + (k : Int) := e
  omega⟩
theorem E_del {ns : List Int} {N k : Nat} (p : Int × Int) (hp : p ∈ delL (E ns N) k) : p.1 ≠ 10 + (k : Int) := by
  obtain ⟨i, hi, e⟩ := mem_del hp
  have hlt : i < N := by have := (List.getElem?_eq_some_iff.1 e).1; rwa [E_len] at this
  rw [E_get hlt] at e
  injection e with e
  subst e
  show 10 + (i : Int) ≠ _
  omega
theorem docs_del {l : List (Int × Int)} {k : Nat} (h : Docs l) : Docs (delL l k) := ⟨by have := h.1; unfold delL; simp; omega, fun p hp => by
  unfold delL at hp
  rcases List.mem_append.1 hp with hp | hp
  · exact h.2 p (List.mem_of_mem_take hp)
  · exact h.2 p (List.mem_of_mem_drop hp)⟩
def At (wx : World) (K : Nat → Prop) (p : Nat) (ns : List Int) (j : Nat) (h : Int) (W : World) : Prop :=
  ∃ s L, LS wx K p 500 j s (h :: L) W ∧ Lh s h (E ns j) ∧ Docs (E ns j)
set_option maxRecDepth 100000 in
set_option maxHeartbeats 8000000 in
theorem walk (v : Value) (ns : List Int) (i : Int) (wi : (Lit.int .i64 i).wf = true) (w : World) (hx : IntsArg w v ns) :
    Calls Try.prog 8 #[v, .int .i64 i] w fun e w' => e = .returned (.bool true) ∧ Below w.heap.size w w' := by
  have HA := Lib.hid alive11
  obtain ⟨va, vc, rfl⟩ := hx.val
  have hl := hx.len
  unfold maxLen at hl
  have Hx := Lib.hid hx
  obtain ⟨N, hn⟩ : ∃ N, Hid (ns.length = N) := ⟨_, rfl⟩
  rw [hn.out] at hl ⊢
  clear hx
  by_cases h1 : N < 1
  · have h1' : decide ((N : Int) < 1) = true := decide_eq_true (by omega)
    go_enter Try.func8, Try.ntmps8
    go_wp2_with fail
    refine (HA.out _).mono ?_
    rintro e w1 ⟨rfl, hb⟩
    go_wp2_with fail
    go_ret
    exact ⟨rfl, hb⟩
  by_cases h2 : 10 < N
  · have h2' : decide ((10 : Int) < (N : Int)) = true := decide_eq_true (by omega)
    go_enter Try.func8, Try.ntmps8
    go_wp2_with fail
    refine (HA.out _).mono ?_
    rintro e w1 ⟨rfl, hb⟩
    go_wp2_with fail
    go_ret
    exact ⟨rfl, hb⟩
  obtain ⟨b, off, c, e, hbw, hc, hcell⟩ := Hx.out.cell 0 (by rw [hn.out]; omega)
  have hva : va = some ⟨b, off, none⟩ := by injection e
  subst hva
  have hvc : N ≤ vc := by injection e with _ _ e; rw [e, ← hn.out]; exact hc
  have Hcell := Lib.hid hcell
  clear hcell e hc
  obtain ⟨K, hK⟩ : ∃ K : Nat → Prop, K = fun b => b < w.heap.size := ⟨_, rfl⟩
  have HK := Lib.hid hK
  have hKb := Lib.hid (show K b by rw [hK]; exact hbw)
  clear hK
  go_enter Try.func8, Try.ntmps8
  go_wp2_with fail
  refine (HA.out _).mono ?_
  rintro e w1 ⟨rfl, hb⟩
  have Hk := Lib.hid (Kept.of_below hb K)
  clear hb
  go_wp2_with fail
  refine (new_yes 500 _ (by omega) (by omega)).mono ?_
  rintro e w2 ⟨p, rfl, hb, ha⟩
  replace ha := ha K (fun b h => by rw [HK.out] at h; have := Hk.out.size; omega)
  replace Hk := Lib.hid (Hk.out.trans (Kept.of_below hb K))
  clear hb
  have h0 : At w K p ns 0 0 w2 := ⟨Ar.new 500, [], ⟨ha, ((good_new (by omega) (by omega)).mono (by omega)).zero, rfl, by show (0 : Int) ≤ _; omega, Hk.out⟩, (Lh.nil _ : Lh (Ar.new 500) 0 []), docs_nil⟩
  have H0 := Lib.hid h0
  clear h0 ha Hk
  go_wp2_with fail
  go_loopw [6, 7, 40] (fun h t k W => ∃ (j : Nat) (hh T : Int), h = .int .i64 hh ∧ t = .int .i64 T ∧ k = .int .i64 j ∧ j ≤ N ∧ T = tot (E ns j) ∧ At w K p ns j hh W) (fun _ _ k _ => N - (intOf k).toNat)
  case atStart => exact ⟨0, 0, 0, rfl, rfl, rfl, by omega, rfl, H0.out⟩
  case round =>
    obtain ⟨j, hh, T, rfl, rfl, rfl, j1, hT, s, L, hls, hlh, hd⟩ := hrel
    clear H0
    have Hls := Lib.hid hls
    have Hlh := Lib.hid hlh
    have Hd := Lib.hid hd
    have HT := Lib.hid hT
    obtain ⟨q1, q2⟩ := tot_bd (E ns j) fun p hp => (hd.2 p hp).2
    rw [← hT, E_len] at q2
    rw [← hT] at q1
    clear hls hlh hd hT
    by_cases hlt : j < N
    · have cm : wr.cell? ⟨b, off + j, none⟩ = some (.int .i64 (ns.getD j 0)) := (Hls.out.kept.cell hbw hKb.out).trans (Hcell.out j (by rw [hn.out]; exact hlt))
      have hes := Lib.hid (E_succ ns j)
      generalize ns.getD j 0 = y at *
      by_cases hy : y < 0
      · go_wp2_with fail
        go_ret
        exact ⟨rfl, Hls.out.kept.below fun b hb => by rw [HK.out]; exact hb⟩
      by_cases hy2 : 40 < y
      · go_wp2_with fail
        go_ret
        exact ⟨rfl, Hls.out.kept.below fun b hb => by rw [HK.out]; exact hb⟩
      have H := Lib.hid (add_is (id := 10 + (j : Int)) (len := y) (E_new ns j) (by omega) (by omega) (by omega) (by omega) (by rw [E_len]; omega) Hls.out.good (by omega) Hlh.out (.inr (.inl (by simp))) Hd.out (Hls.out.room (by omega)) Hls.out.ars)
      go_wp2_with fail
      refine H.out.mono ?_
      clear H
      rintro e w3 ⟨g, s2, rfl, a3, k3, g3, x3, l3, b3⟩
      have H3 := Lib.hid (Hls.out.made a3 k3 g3 x3 b3)
      have L3 := Lib.hid (show Lh s2 g (E ns (j + 1)) by rw [hes.out]; exact l3)
      have D3 := Lib.hid (show Docs (E ns (j + 1)) by rw [hes.out]; exact docs_snoc Hd.out (by rw [E_len]; omega) (by omega) (by omega))
      have T3 := Lib.hid (show T + y + 1 = tot (E ns (j + 1)) by rw [hes.out, tot_append, ← HT.out]; simp [tot]; omega)
      clear a3 k3 g3 x3 l3 b3
      have q3 : T ≤ 410 := by omega
      go_wp2_with fail
      go_roundw
      case rel => exact ⟨j + 1, g, T + y + 1, rfl, rfl, by go_num, by omega, T3.out, s2, _, H3.out, L3.out, D3.out⟩
      case measure => simp [intOf]; omega
    · obtain rfl : N = j := by omega
      as_aux_lemma =>
        obtain ⟨b1, b2, b3, b4⟩ := pick i N (by omega)
        obtain ⟨k, hk⟩ := Int.eq_ofNat_of_zero_le b1
        have hkn : k < N := by omega
        have cm : wr.cell? ⟨b, off + k, none⟩ = some (.int .i64 (ns.getD k 0)) := (Hls.out.kept.cell hbw hKb.out).trans (Hcell.out k (by rw [hn.out]; exact hkn))
        have hek := Lib.hid (E_at (ns := ns) hkn)
        have heg := Lib.hid (E_get (ns := ns) hkn)
        have hxr := (Hd.out.2 (10 + (k : Int), ns.getD k 0) (List.mem_of_getElem? heg.out)).2
        dsimp only at hxr
        obtain ⟨x1, x2⟩ := hxr
        have htd := Lib.hid (tot_del (E ns N) k (by rw [E_len]; exact hkn))
        generalize ns.getD k 0 = x at *
        clear b1 b2
        have H := Lib.hid (cut_is (id := 10 + (k : Int)) (E_old hkn) Hls.out.good (by omega) Hlh.out (.inl (by simp)) Hd.out (Hls.out.room (by omega)) Hls.out.ars)
        go_wp2_with fail
        refine H.out.mono ?_
        clear H
        rintro e w3 ⟨gc, s3, rfl, a3, k3, g3, x3, l3, b5⟩
        have H3 := Lib.hid (Hls.out.made a3 k3 g3 x3 b5)
        have L3 := Lib.hid l3
        have Lh3 := Lib.hid (Hlh.out.ext x3)
        have D3 := Lib.hid (docs_del (k := k) Hd.out)
        have hdl := Lib.hid (show (delL (E ns N) k).length = N - 1 by have := delL_length (l := E ns N) (k := k) (by rw [E_len]; exact hkn); rw [E_len] at this; omega)
        have htl := Lib.hid (show tot (delL (E ns N) k) = T - x - 1 by have := htd.out; rw [hek.out, ← HT.out] at this; dsimp only at this; omega)
        have c3 : w3.cell? ⟨b, off + k, none⟩ = some (.int .i64 x) := kept_cell k3 hKb.out cm
        clear a3 k3 g3 x3 b5 l3 cm
        have H5 := fun W hb => Lib.hid (tlen_is (w := W) hdl.out H3.out.good (by omega) L3.out (.inr (.inl (by simp))) (by omega) (H3.out.ars.below hb))
        have H6 := fun W hb => Lib.hid (total_is (w := W) htl.out H3.out.good (by omega) L3.out (.inr (.inl (by simp))) D3.out (H3.out.ars.below hb))
        have v1 : IntKind.i64.wrap ((N : Int) - 1) = ((N - 1 : Nat) : Int) := by rw [wrap_small (by omega) (by omega)]; omega
        have v2 : IntKind.i64.wrap (T - x) = T - x := wrap_small (by omega) (by omega)
        have v3 : IntKind.i64.wrap (T - x - 1) = T - x - 1 := wrap_small (by omega) (by omega)
        have hki : (k : Int) < (N : Int) := by omega
        have hb3 := block_lt_of_cell c3
        dsimp only at hb3
        go_upto_region 17 with fail
        go_cut [109] (fun v W => v = .bool false ∧ Below w3.heap.size w3 W)
        case first =>
          go_region_held3 (fun w' => w'.cell? ⟨b, off + k, none⟩ = some (.int .i64 x)) (go_keep) (first | (go_at_call 23; refine (H5 _ (Below.refl _ _).drew).out.mono ?_; rintro e w4 ⟨rfl, _, k4⟩; have c4 : w4.cell? ⟨b, off + k, none⟩ = some (.int .i64 x) := (k4.cell (p := ⟨b, _, none⟩) hb3).trans c3; have B4 := Lib.hid (Below.trans (Below.refl _ _).drew k4); clear k4) | (go_at_call 27; refine (H6 _ B4.out).out.mono ?_; rintro e w5 ⟨rfl, k5⟩; have c5 : w5.cell? ⟨b, off + k, none⟩ = some (.int .i64 x) := (k5.cell (p := ⟨b, _, none⟩) (Nat.lt_of_lt_of_le hb3 B4.out.size)).trans ((B4.out.cell (p := ⟨b, _, none⟩) hb3).trans c3); have B5 := Lib.hid (B4.out.trans (k5.mono B4.out.size)); clear k5))
          all_goals
            go_wp2_with fail
            go_meet
            case rel => exact ⟨rfl, B5.out⟩
        case rest =>
          obtain ⟨rfl, hbc⟩ := hcut
          have Hc := Lib.hid (H3.out.below hbc)
          have cc : wc.cell? ⟨b, off + k, none⟩ = some (.int .i64 x) := (hbc.cell (p := ⟨b, _, none⟩) hb3).trans c3
          clear hbc H5 H6 c3 hb3
          have HP := Lib.hid (place_is (placed_none (id := 10 + (k : Int)) (E_del (ns := ns) (N := N))) Hc.out.good (by omega) L3.out (.inr (.inl (by simp))) D3.out Hc.out.ars)
          go_wp2_with fail
          refine HP.out.mono ?_
          clear HP
          rintro e wd ⟨rfl, kd⟩
          have Hd2 := Lib.hid (Hc.out.below kd)
          have cd : wd.cell? ⟨b, off + k, none⟩ = some (.int .i64 x) := (kd.cell (p := ⟨b, _, none⟩) (block_lt_of_cell cc)).trans cc
          clear kd cc
          have H := Lib.hid (add_is (id := 10 + (k : Int)) (len := x) (placed_none (E_del (ns := ns) (N := N))) (by omega) (by omega) (by omega) (by omega) (by rw [hdl.out]; omega) Hd2.out.good (by omega) L3.out (.inr (.inl (by simp))) D3.out (Hd2.out.room (by omega)) Hd2.out.ars)
          go_wp2_with fail
          refine H.out.mono ?_
          clear H
          rintro e we ⟨ge, se, rfl, a3, k3, g3, x3, l3, b5⟩
          have He := Lib.hid (Hd2.out.made a3 k3 g3 x3 b5)
          have Le := Lib.hid l3
          have Lh4 := Lib.hid (Lh3.out.ext x3)
          have De := Lib.hid (docs_snoc (id := 10 + (k : Int)) (len := x) D3.out (by rw [hdl.out]; omega) (by omega) (by omega))
          have hle := Lib.hid (show tot (delL (E ns N) k ++ [(10 + (k : Int), x)]) = T by rw [tot_append, htl.out]; simp [tot]; omega)
          have ce : we.cell? ⟨b, off + k, none⟩ = some (.int .i64 x) := kept_cell k3 hKb.out cd
          clear a3 k3 g3 x3 b5 l3 cd
          have HP := Lib.hid (place_is (placed_last (x := x) hdl.out (E_del (ns := ns) (N := N))) He.out.good (by omega) Le.out (.inr (.inl (by simp))) De.out He.out.ars)
          go_wp2_with fail
          refine HP.out.mono ?_
          clear HP
          rintro e wf ⟨rfl, kf⟩
          have Hf := Lib.hid (He.out.below kf)
          have cf : wf.cell? ⟨b, off + k, none⟩ = some (.int .i64 x) := (kf.cell (p := ⟨b, _, none⟩) (block_lt_of_cell ce)).trans ce
          clear kf ce
          have HA9 := Lib.hid (at_is heg.out Hf.out.good (by omega) Lh4.out (.inr (.inl (by simp))) Hd.out Hf.out.ars)
          go_wp2_with fail
          refine HA9.out.mono ?_
          clear HA9
          rintro e wg ⟨rfl, kg⟩
          have Hg := Lib.hid (Hf.out.below kg)
          have cg : wg.cell? ⟨b, off + k, none⟩ = some (.int .i64 x) := (kg.cell (p := ⟨b, _, none⟩) (block_lt_of_cell cf)).trans cf
          clear kg cf
          have hbg := block_lt_of_cell cg
          dsimp only at hbg
          have H7 := fun W hb => Lib.hid (total_is (w := W) hle.out Hg.out.good (by omega) Le.out (.inr (.inl (by simp))) De.out (Hg.out.ars.below hb))
          have H8 := fun W hb => Lib.hid (total_is (w := W) HT.out.symm Hg.out.good (by omega) Lh4.out (.inr (.inl (by simp))) Hd.out (Hg.out.ars.below hb))
          go_wp2_with fail
          refine (H7 _ (Below.refl _ _)).out.mono ?_
          rintro e w4 ⟨rfl, k4⟩
          have c4 : w4.cell? ⟨b, off + k, none⟩ = some (.int .i64 x) := (k4.cell (p := ⟨b, _, none⟩) hbg).trans cg
          have B4 := Lib.hid (Below.trans (Below.refl _ _) k4)
          clear k4
          go_wp2_with fail
          refine (H8 _ B4.out).out.mono ?_
          rintro e w5 ⟨rfl, k5⟩
          have B5 := Lib.hid (B4.out.trans (k5.mono B4.out.size))
          clear k5
          go_wp2_with fail
          go_ret
          exact ⟨rfl, (Hg.out.below B5.out).kept.below fun b hb => by rw [HK.out]; exact hb⟩

set_option maxRecDepth 100000 in
theorem lifted (os : Os) (started : os.Started) (H : Type) (enc : TypeId × Value → H) :
    ReturnsInHanded {} Try.checked os 8 .any (Rows.tableBackSpec.pre6 enc Try.prog Try.f8 Rows.tableBackRow.domain false) (Rows.tableBackSpec.post enc Try.prog Try.f8 false true false false) := by
  refine returnsInHanded_of_change (C := Try.checked) own_ started (by kernel_rfl) Try.func8
    (ChangeSpec.witness6 (enc := enc) (C := Try.checked) false ⟨#[], #[.slice none 0 0, .int .i64 0], []⟩ 8 (by kernel_rfl) (by kernel_rfl) (by kernel_rfl) (by kernel_rfl)) ?_
  intro W base args ds gs before hval0 hW _ _
  have hval : ∀ (j : Nat) t v, Try.f8.params[j]? = some t → args[j]? = some v → Value.okWide Try.prog W .any base t v := hval0
  have hW' := hW
  obtain ⟨p, q, hA0, hV, rfl, hfz, hnd⟩ := hW
  have hA : DataW.TrodAll enc Try.prog W 0 (fun _ => true) true Try.f8.params.toList args.toList ds p := hA0
  rw [Try.params8] at hA hval
  obtain ⟨v0, vs0, d0, ds0, p0, q0, hargs, rfl, rfl, h0, r0⟩ := trodAll_cons hA
  obtain ⟨v1, vs1, d1, ds1, p1, q1, rfl, rfl, rfl, h1, r1⟩ := trodAll_cons r0
  obtain ⟨rfl, rfl, rfl⟩ := trodAll_nil r1
  obtain rfl : args = #[v0, v1] := by cases args; simp_all
  obtain ⟨x0, hx0⟩ := ints_arg (hval 0 35 v0 rfl rfl) h0
  obtain ⟨a1, rfl, rfl, rfl, w1⟩ := open_int Try.underlying3 (hval 1 3 v1 rfl rfl) h1
  clear hA0 hval0
  refine (walk v0 x0 a1 w1 W hx0).mono fun e W' ⟨he, hg⟩ => ?_
  subst he
  exact ⟨_, rfl, law_post laid_ (by kernel_rfl) rfl hW' hg rfl Try.underlying4 ⟨rfl, rfl, rfl⟩⟩

theorem over : Rows.tableBackRow.holds Try.pinned (OpenSpec.ofChange Rows.tableBackSpec) :=
  OpenClaim.holds_of_wide 8 Try.f8 rfl rfl rfl rfl rfl rfl rfl ⟨rfl, rfl, rfl, rfl, rfl⟩ rfl rfl rfl rfl rfl (by kernel_rfl) Try.func8 (by kernel_rfl)
    (of_decide_eq_true (by kernel_rfl)) (by unfold Func.isWrapper; first | (rw [if_pos (by decide +kernel)]; kernel_rfl) | (rw [if_neg (by decide +kernel)]; exact ⟨rfl, rfl⟩))
    (fun os started H enc _ => lifted os started H enc)

theorem proved : Rows.TableBackSaid :=
  over
#print axioms proved
end Go.Proofs.Ytlnnljkifdmmlaa.tableBack
