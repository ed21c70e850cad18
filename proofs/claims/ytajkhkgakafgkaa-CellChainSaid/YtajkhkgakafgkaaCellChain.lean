/- CellChain holds: one version comes behind the other; each that is read keeps its own, however many come. No condition. -/
import Derived.Test.YtajkhkgakafgkaaC2
import Derived.Test.YtajkhkgakafgkaaLst
import Derived.Test.YtajkhkgakafgkaaPure2
import Derived.Test.YtajkhkgakafgkaaLaw
namespace Go.Proofs.Ytajkhkgakafgkaa.cellChain
open Go.ChangeShapes Go.WideShapes Go.ChangeAt Go.RowKit
set_option linter.unusedVariables false

def rn (v : Int) : Nd := ⟨6, 0, 0, 0, 0, v, 0⟩
/-- i nodes were made, each read; the last one is the version. -/
structure CA (s : Ar) (i : Nat) (B : Int) : Prop where
  ok : s.Ok B
  n : s.n = 30
  u : ∀ j, s.u j = decide (1 ≤ j ∧ j ≤ i)
  nd : ∀ j, 1 ≤ j → j ≤ i → s.nd j = rn ((j : Int) - 1)
  c : ∀ j, 1 ≤ j → j ≤ i → s.c j = if j = i then 2 else 1
  wt : s.wt = []
  busy : s.busy = i
theorem CA_zero : CA (Ar.new 30) 0 0 := ⟨ok_new (by decide) (by decide), rfl, fun j => (decide_eq_false (by omega)).symm, fun j h1 h2 => by omega, fun j h1 h2 => by omega, rfl, rfl⟩
/-- One more round: made, published (the one that was the version is dropped), read. -/
theorem CA.next {s : Ar} {i : Nat} {B : Int} (h : CA s i B) (hi : i < 30) :
    s.make (rn i) = (s.put (i + 1) (rn i), (i : Int) + 1, 0) ∧ (s.put (i + 1) (rn i)).Ok (B + 4) ∧ ∃ t e u, (s.put (i + 1) (rn i)).drop i = (t, e) ∧ t.Ok (B + 4) ∧ t.keep ((i : Int) + 1) = (u, 0) ∧ u.count ((i : Int) + 1) = 2 ∧ CA u (i + 1) (B + 5) := by
  have hf : s.free = i + 1 := free_is (by omega) (by rw [h.n]; omega) (by rw [h.u]; exact decide_eq_false (by omega)) fun j h1 h2 => by rw [h.u]; exact decide_eq_true (by omega)
  have hm : s.make (rn i) = (s.put (i + 1) (rn i), (i : Int) + 1, 0) := by
    rw [make_leaf (by decide : (1 : Int) ≤ 6 ∧ (6 : Int) ≤ 6) rfl (by omega), hf]
    rfl
  have ok1 := ok_make h.ok (rn i)
  rw [hm] at ok1
  have c1 : ∀ j, 1 ≤ j → j ≤ i + 1 → (s.put (i + 1) (rn i)).c j = if j = i then 2 else 1 := by
    intro j j1 j2
    show upd (bumps s.c [0, 0, 0, 0]) (i + 1) 1 j = _
    by_cases e : j = i + 1
    · subst e; rw [upd_same, if_neg (by omega)]
    · rw [upd_ne _ _ e, bumps_zero, h.c j j1 (by omega)]
  have n1 : ∀ j, 1 ≤ j → j ≤ i + 1 → (s.put (i + 1) (rn i)).nd j = rn ((j : Int) - 1) := by
    intro j j1 j2
    show upd s.nd (i + 1) (rn i) j = _
    by_cases e : j = i + 1
    · subst e; rw [upd_same]; congr 1; omega
    · rw [upd_ne _ _ e]; exact h.nd j j1 (by omega)
  have u1 : ∀ j, (s.put (i + 1) (rn i)).u j = decide (1 ≤ j ∧ j ≤ i + 1) := by
    intro j
    show upd s.u (i + 1) true j = _
    by_cases e : j = i + 1
    · subst e; rw [upd_same]; exact (decide_eq_true (by omega)).symm
    · rw [upd_ne _ _ e, h.u]
      by_cases g : 1 ≤ j ∧ j ≤ i
      · rw [decide_eq_true g, decide_eq_true (by omega)]
      · rw [decide_eq_false g, decide_eq_false (by omega)]
  have hd : ∃ t e, (s.put (i + 1) (rn i)).drop i = (t, e) ∧ (∀ j, 1 ≤ j → j ≤ i + 1 → t.c j = 1) ∧ t.wt = [] ∧ t.n = 30 := by
    by_cases i0 : i = 0
    · subst i0
      refine ⟨_, _, drop_zero _, fun j j1 j2 => by rw [c1 j j1 j2, if_neg (by omega)], h.wt, h.n⟩
    · have hc : (s.put (i + 1) (rn i)).count i = 2 := by
        unfold Ar.count
        rw [if_neg (by show ¬ ((i : Int) < 1 ∨ (s.n : Int) < i); rw [h.n]; omega)]
        show (s.put (i + 1) (rn i)).c i = 2
        rw [c1 i (by omega) (by omega), if_pos rfl]
      have hci : (s.put (i + 1) (rn i)).c (i : Int).toNat = 2 := by
        show (s.put (i + 1) (rn i)).c i = 2
        rw [c1 i (by omega) (by omega), if_pos rfl]
      refine ⟨(s.put (i + 1) (rn i)).drop1 i, 0, by unfold Ar.drop; rw [hc, if_neg (by decide)], fun j j1 j2 => ?_, ?_, h.n⟩
      · show upd (s.put (i + 1) (rn i)).c (i : Int).toNat _ j = 1
        rw [hci]
        by_cases e : j = i
        · subst e; exact upd_same _ _ _
        · rw [upd_ne _ _ (by omega), c1 j j1 j2, if_neg e]
      · unfold Ar.drop1
        rw [hci]
        exact h.wt
  obtain ⟨t, e, hd, tc, tw, tn⟩ := hd
  have ok2 := ok_drop ok1 i
  rw [hd] at ok2
  have tu : t.u = (s.put (i + 1) (rn i)).u := by have := drop_u (s.put (i + 1) (rn i)) i; rw [hd] at this; exact this
  have tnd : t.nd = (s.put (i + 1) (rn i)).nd := by have := drop_nd (s.put (i + 1) (rn i)) i; rw [hd] at this; exact this
  have tb : t.busy = (s.put (i + 1) (rn i)).busy := by have := drop_busy (s.put (i + 1) (rn i)) i; rw [hd] at this; exact this
  have tci : t.count ((i : Int) + 1) = 1 := by
    unfold Ar.count
    rw [if_neg (by rw [tn]; omega)]
    exact tc (i + 1) (by omega) (by omega)
  have tk : t.keep ((i : Int) + 1) = ({ t with c := upd t.c (i + 1) 2 }, 0) := by
    unfold Ar.keep
    rw [tci, if_neg (by decide), show ((i : Int) + 1).toNat = i + 1 by omega, tc (i + 1) (by omega) (by omega)]
    rfl
  have ok3 := ok_keep ok2 ((i : Int) + 1)
  rw [tk] at ok3
  refine ⟨hm, ok1, t, e, _, hd, ok2, tk, ?_, ok3.mono (by omega), tn, fun j => ?_, fun j j1 j2 => ?_, fun j j1 j2 => ?_, tw, ?_⟩
  · unfold Ar.count
    rw [if_neg (by show ¬ ((i : Int) + 1 < 1 ∨ (t.n : Int) < (i : Int) + 1); rw [tn]; omega)]
    show upd t.c (i + 1) 2 ((i : Int) + 1).toNat = 2
    rw [show ((i : Int) + 1).toNat = i + 1 by omega, upd_same]
  · show t.u j = _
    rw [tu, u1]
  · show t.nd j = _
    rw [tnd, n1 j j1 j2]
  · show upd t.c (i + 1) 2 j = _
    by_cases e : j = i + 1
    · subst e; rw [upd_same, if_pos rfl]
    · rw [upd_ne _ _ e, tc j j1 (by omega), if_neg e]
  · show t.busy = _
    rw [tb]
    show s.busy + 1 = _
    rw [h.busy]; omega

/-- m of those that were read are dropped. -/
structure CB (s : Ar) (m i : Nat) (B : Int) : Prop where
  ok : s.Ok B
  n : s.n = 30
  u : ∀ j, s.u j = decide (1 ≤ j ∧ j ≤ i)
  nd : ∀ j, 1 ≤ j → j ≤ i → s.nd j = rn ((j : Int) - 1)
  c : ∀ j, m < j → j ≤ i → s.c j = if j = i then 2 else 1
  wt : ∀ h, h ∈ s.wt → 1 ≤ h ∧ h < i
  wl : s.wt.length = min m (i - 1)
  busy : s.busy = i
theorem CA.start {s : Ar} {i : Nat} {B : Int} (h : CA s i B) : CB s 0 i B :=
  ⟨h.ok, h.n, h.u, h.nd, fun j h1 h2 => h.c j (by omega) h2, fun x hx => (by rw [h.wt] at hx; cases hx), by rw [h.wt]; simp, h.busy⟩
theorem CB.next {s : Ar} {m i : Nat} {B : Int} (h : CB s m i B) (hm : m < i) (hi : i ≤ 30) :
    s.get ((m : Int) + 1) = (rn m, true) ∧ ∃ t, s.drop ((m : Int) + 1) = (t, 0) ∧ CB t (m + 1) i B := by
  have e1 : ((m : Int) + 1).toNat = m + 1 := by omega
  have hc := h.c (m + 1) (by omega) (by omega)
  have hc0 : s.count ((m : Int) + 1) ≠ 0 := by
    unfold Ar.count
    rw [if_neg (by rw [h.n]; omega), e1, hc]
    split <;> decide
  refine ⟨?_, s.drop1 ((m : Int) + 1), by unfold Ar.drop; rw [if_neg hc0], ?_⟩
  · unfold Ar.get
    rw [if_neg]
    · rw [e1, h.nd (m + 1) (by omega) (by omega)]
      congr 2; omega
    · rw [h.n, e1, h.u]; simp; omega
  · have ok := ok_drop h.ok ((m : Int) + 1)
    unfold Ar.drop at ok
    rw [if_neg hc0] at ok
    refine ⟨ok, h.n, h.u, h.nd, fun j j1 j2 => ?_, fun x hx => ?_, ?_, h.busy⟩
    · show upd s.c ((m : Int) + 1).toNat _ j = _
      rw [e1, upd_ne _ _ (by omega)]
      exact h.c j (by omega) j2
    · unfold Ar.drop1 at hx
      rw [e1, hc] at hx
      by_cases g : m + 1 = i
      · rw [if_pos g] at hx; exact h.wt x hx
      · rw [if_neg g] at hx
        rcases List.mem_append.1 hx with hx | hx
        · exact h.wt x hx
        · have : x = (m : Int) + 1 := by simpa using hx
          omega
    · unfold Ar.drop1
      rw [e1, hc]
      have := h.wl
      by_cases g : m + 1 = i
      · rw [if_pos g]; show s.wt.length = _; omega
      · rw [if_neg g]; show (s.wt ++ [_]).length = _; rw [List.length_append]; simp; omega
theorem CB.work {s : Ar} {i : Nat} {B : Int} (h : CB s i i B) (h1 : 1 ≤ i) (hi : i ≤ 30) : ∃ s', s.work 100 = (s', i - 1) ∧ s'.busy = 1 := by
  obtain ⟨s', e1, e2, e3, e4, e5, e6, e7⟩ := work_leaves s.wt 100 s rfl h.ok.nodup (fun x hx => by
    have := h.wt x hx
    exact ⟨by omega, by rw [h.nd _ (by omega) (by omega)]; rfl⟩) (by have := h.wl; omega)
  have hl : s.wt.length = i - 1 := by have := h.wl; omega
  exact ⟨s', by rw [e1, hl], by rw [e3, h.busy, hl]; omega⟩

/-- At the first loop's head. -/
def At (w : World) (q p i : Nat) (v : Value) (W : World) : Prop := ∃ (K : Nat → Prop) (xs : List Int) (s : Ar), CA s i (5 * i) ∧ Cel W K q p s i i 0 ∧ Lst W w.heap.size K v xs ∧ xs.length = i ∧ (∀ j, j < i → xs.getD j 0 = (j : Int) + 1) ∧ (∀ b, b < w.heap.size → K b) ∧ (∀ b, K b → b < W.heap.size) ∧ Below w.heap.size w W
set_option maxHeartbeats 2000000 in
theorem walk (n : Int) (w0 : (Lit.int .i64 n).wf = true) (w : World) :
    Calls Try.prog 12 #[.int .i64 n] w fun e w' => e = .returned (.bool true) ∧ Below w.heap.size w w' := by
  have HA := Lib.hid alive17
  by_cases h1 : n < 1
  · skip
    go_enter Try.func12, Try.ntmps12
    go_wp2_with fail
    refine (HA.out w).mono ?_
    rintro e w1 ⟨rfl, hb⟩
    go_wp2_with fail
    go_ret
    exact ⟨rfl, hb⟩
  by_cases h2 : 25 < n
  · skip
    go_enter Try.func12, Try.ntmps12
    go_wp2_with fail
    refine (HA.out w).mono ?_
    rintro e w1 ⟨rfl, hb⟩
    go_wp2_with fail
    go_ret
    exact ⟨rfl, hb⟩
  obtain ⟨N, rfl⟩ := Int.eq_ofNat_of_zero_le (show 0 ≤ n by omega)
  obtain ⟨K, hK⟩ : ∃ K : Nat → Prop, K = fun b => b < w.heap.size := ⟨_, rfl⟩
  have HK := Lib.hid hK
  clear hK
  go_enter Try.func12, Try.ntmps12
  go_wp2_with fail
  refine (HA.out w).mono ?_
  rintro e w1 ⟨rfl, hb⟩
  have Hk := Lib.hid (Kept.of_below hb K)
  clear hb
  go_wp2_with fail
  refine (new_yes 30 _ (by decide) (by decide)).mono ?_
  rintro e w2 ⟨p, rfl, hb, ha⟩
  replace ha := ha K (fun b h => by rw [HK.out] at h; have := Hk.out.size; omega)
  replace Hk := Lib.hid (Hk.out.trans (Kept.of_below hb K))
  clear hb
  have H := Lib.hid (cnew_is ha)
  clear ha
  go_wp2_with fail
  refine H.out.mono ?_
  clear H
  rintro e w3 ⟨q, rfl, ha, hb⟩
  replace Hk := Lib.hid (Hk.out.trans (Kept.of_below hb K))
  clear hb
  go_wp2_with fail
  have hsz : w.heap.size ≤ w3.heap.size := Hk.out.size
  have hb0 := Hk.out.below (fun b hb => by rw [HK.out]; exact hb)
  have h0 : At w q p 0 (.slice none 0 0) w3 := ⟨K, [], Ar.new 30, CA_zero, ha, Lst.nil _ _ _, rfl, fun j hj => by omega, fun b hb => (by rw [HK.out]; exact hb), fun b hb => (by rw [HK.out] at hb; omega), hb0⟩
  clear ha Hk HK hb0 hsz
  go_loopw [5, 6] (fun v i W => ∃ j : Nat, i = .int .i64 j ∧ j ≤ N ∧ At w q p j v W) (fun _ i _ => N - (intOf i).toNat)
  case atStart => exact ⟨0, rfl, by omega, h0⟩
  case round =>
    obtain ⟨j, rfl, j1, K', xs, s, hs, ha, hl, hlen, hxs, hK1, hK2, hbel⟩ := hrel
    clear h0
    by_cases hlt : j < N
    · obtain ⟨m1, m2, t, e, u, m3, m4, m5, m6, m7⟩ := hs.next (by omega)
      have M1 := Lib.hid m1
      have M2 := Lib.hid m2
      have M3 := Lib.hid m3
      have M4 := Lib.hid m4
      have M5 := Lib.hid m5
      have M6 := Lib.hid m6
      have M7 := Lib.hid m7
      have Hs := Lib.hid hs
      have Hl := Lib.hid hl
      have Hlen := Lib.hid hlen
      have Hxs := Lib.hid hxs
      have HK1 := Lib.hid hK1
      have HK2 := Lib.hid hK2
      have Hk := Lib.hid (Kept.refl K' wr)
      have Hbel := Lib.hid hbel
      have oku : Hid (u.Ok (5 * j + 5)) := m7.ok
      clear m1 m2 m3 m4 m5 m6 m7 hs hl hlen hxs hK1 hK2 hbel
      have H := Lib.hid (cmake_is (rn j) M1.out ha Hs.out.ok (by omega))
      clear ha
      go_wp2_with fail
      refine H.out.mono ?_
      clear H
      rintro e w4 ⟨rfl, ha, hk⟩
      replace Hk := Lib.hid (Hk.out.trans hk)
      clear hk
      have H := Lib.hid (publish_now (root := (j : Int) + 1) M3.out (M2.out.fit (by omega)) (by omega) ha)
      clear ha
      go_wp2_with fail
      refine H.out.mono ?_
      clear H
      rintro e w5 ⟨rfl, ha, hk⟩
      replace Hk := Lib.hid (Hk.out.trans hk)
      clear hk
      have H := Lib.hid (read_some (by omega) M5.out (M4.out.fit (by omega)) ha)
      clear ha
      go_wp2_with fail
      refine H.out.mono ?_
      clear H
      rintro e w6 ⟨rfl, ha, hk⟩
      replace Hk := Lib.hid (Hk.out.trans hk)
      clear hk
      have H := Lib.hid (ccount_is (c := 2) ((j : Int) + 1) M6.out ha (oku.out.fit (by omega)))
      go_wp2_with fail
      refine H.out.mono ?_
      clear H
      rintro e w' ⟨rfl, rfl⟩
      have HL2 := Lib.hid ((Hl.out.kept (Hk.out)).kept ((Kept.refl K' w6).alloc (.cells #[.int .i64 ((j : Int) + 1)] 3)))
      have HX := Lib.hid (show ∀ b, K' b → b < (w6.alloc (.cells #[.int .i64 ((j : Int) + 1)] 3)).heap.size from fun b hb => by have := HK2.out b hb; have := Hk.out.size; simp; omega)
      have HB := Lib.hid (show w.heap.size ≤ (w6.alloc (.cells #[.int .i64 ((j : Int) + 1)] 3)).heap.size by have := Hbel.out.size; have := Hk.out.size; simp; omega)
      have HLn := Lib.hid (show xs.length + 1 ≤ 1000000000 by have := Hlen.out; omega)
      go_wp2_with (at_builtin; refine wpList_append_lst HL2.out HX.out HB.out HLn.out rfl (.tmp 73) (.tmp 75) rfl rfl ⟨w6.heap.size, 0, none⟩ ((j : Int) + 1) 1 rfl ?cell ?push)
      case cell => exact cell_new rfl rfl
      case push =>
        intro v' w7 K2 hp
        have HP := Lib.hid hp
        clear hp
        go_wp2_with fail
        go_roundw
        case rel =>
          have hp := HP.out
          refine ⟨j + 1, by go_num, by omega, K2, xs ++ [(j : Int) + 1], u, ?_, ?_, hp.lst, by have := Hlen.out; simp [this], fun i hi => ?_, fun b hb => hp.more b (HK1.out b hb), fun b hb => (hp.new b hb).1, ?_⟩
          · have := M7.out
            rwa [show 5 * (j : Int) + 5 = 5 * ((j + 1 : Nat) : Int) by omega] at this
          · have := (ha.alloc (.cells #[.int .i64 ((j : Int) + 1)] 3)).step hp.size hp.same hp.new
            rwa [show (j : Int) + 1 = ((j + 1 : Nat) : Int) by omega] at this
          · have hl := Hlen.out
            by_cases e : i = j
            · subst e
              simp [List.getD, hl]
            · have := Hxs.out i (by omega)
              simp [List.getD, List.getElem?_append, show i < xs.length by omega] at this ⊢
              exact this
          · exact ((Hbel.out.trans ((Hk.out.mono (K' := fun b => b < w.heap.size) (fun b _ h => HK1.out b h)).below_of Hbel.out.size)).alloc (by have := Hbel.out.size; have := Hk.out.size; omega) _).trans hp.below
        case measure => simp [intOf]; omega
    · obtain ⟨wo, rfl⟩ : ∃ wo : World, wo = wr := ⟨_, rfl⟩
      obtain rfl : N = j := by omega
      have Hw := Lib.hid (show s.work 100 = (s, 0) by simp [Ar.work, hs.wt])
      have Hs := Lib.hid hs.start
      have Ho := Lib.hid hs.ok
      obtain ⟨g, cp, rfl, hcp, hKg, hcells⟩ := hl.at_ (i := 0) (by omega)
      have Hl := Lib.hid hl
      have Hlen := Lib.hid hlen
      have Hxs := Lib.hid hxs
      have HK1 := Lib.hid hK1
      have HK2 := Lib.hid hK2
      have Hk := Lib.hid (Kept.refl K' wo)
      have Hbel := Lib.hid hbel
      have Hcells := Lib.hid hcells
      have hlg : g < wo.heap.size := hK2 g hKg
      clear hs hl hxs hK1 hK2 hbel hcells
      rw [hlen] at *
      clear hlen
      have H := Lib.hid (cwork_is (m := 0) 100 Hw.out rfl ha Ho.out (by omega) (by decide))
      clear ha
      go_wp2_with fail
      refine H.out.mono ?_
      clear H
      rintro e w4 ⟨rfl, ha, hk⟩
      replace Hk := Lib.hid (Hk.out.trans hk)
      clear hk
      go_wp2_with fail
      have hHk : Kept K' wo w4 := Hk.out
      go_loopw [81] (fun i W => ∃ m : Nat, i = .int .i64 m ∧ m ≤ N ∧ ∃ t, CB t m N (5 * N) ∧ Cel W K' q p t N N 0 ∧ Kept K' wo W) (fun i _ => N - (intOf i).toNat)
      case atStart => exact ⟨0, rfl, by omega, s, Hs.out, ha, Hk.out⟩
      case round =>
        obtain ⟨m, rfl, m1, t, ht, ha, hk⟩ := hrel
        clear hHk
        replace Hk := Lib.hid hk
        clear hk
        by_cases hlt2 : m < N
        · obtain ⟨g1, t2, g2, g3⟩ := ht.next hlt2 (by omega)
          have G1 := Lib.hid g1
          have G2 := Lib.hid g2
          have G3 := Lib.hid g3
          have Ht := Lib.hid ht
          clear g1 g2 g3 ht
          have cm : wr.cell? ⟨g, m, none⟩ = some (.int .i64 ((m : Int) + 1)) := by rw [Hk.out.cell hlg hKg, Hcells.out m hlt2, Hxs.out m hlt2]
          have H := Lib.hid (cget_is (x := ⟨6, 0, 0, 0, 0, m, 0⟩) (b := true) ((m : Int) + 1) G1.out ha (Ht.out.ok.fit (by omega)))
          clear ha
          go_wp2_with fail
          refine H.out.mono ?_
          clear H
          rintro e w5 ⟨rfl, ha, hk⟩
          replace Hk := Lib.hid (Hk.out.trans (Kept.of_below hk _))
          clear hk
          replace ha := ha.alloc (.cells #[.int .i64 6, .int .i64 0, .int .i64 0, .int .i64 0, .int .i64 0, .int .u64 m, .int .u64 0] 31)
          replace Hk := Lib.hid (Hk.out.alloc (.cells #[.int .i64 6, .int .i64 0, .int .i64 0, .int .i64 0, .int .i64 0, .int .u64 m, .int .u64 0] 31))
          have hmb : (m : Int) < 18446744073709551616 := by omega
          have H := Lib.hid (cdrop_is ((m : Int) + 1) G2.out ha (Ht.out.ok.fit (by omega)))
          clear ha
          go_wp2_with fail
          refine H.out.mono ?_
          clear H
          rintro e w6 ⟨rfl, ha, hk⟩
          replace Hk := Lib.hid (Hk.out.trans hk)
          clear hk
          go_wp2_with fail
          go_roundw
          case rel => exact ⟨m + 1, by go_num, by omega, t2, G3.out, ha, Hk.out⟩
          case measure => simp [intOf]; omega
        · obtain rfl : N = m := by omega
          obtain ⟨s', w1, w2⟩ := ht.work (by omega) (by omega)
          have W1 := Lib.hid w1
          have W2 := Lib.hid w2
          have Ht := Lib.hid ht
          clear w1 w2 ht
          have H := Lib.hid (cwork_is (m := (N : Int) - 1) 100 W1.out (by omega) ha Ht.out.ok (by omega) (by decide))
          clear ha
          go_wp2_with fail
          refine H.out.mono ?_
          clear H
          rintro e w5 ⟨rfl, ha, hk⟩
          replace Hk := Lib.hid (Hk.out.trans hk)
          clear hk
          have H := Lib.hid (cused_is (c := 1) W2.out ha)
          go_wp2_with fail
          refine H.out.mono ?_
          clear H
          rintro e w' ⟨rfl, rfl⟩
          have H := Lib.hid (number_is ha)
          clear ha
          go_wp2_with fail
          refine H.out.mono ?_
          clear H
          rintro e w6 ⟨rfl, ha, hk⟩
          replace Hk := Lib.hid (Hk.out.trans (Kept.of_below hk _))
          clear hk
          have H := Lib.hid (fails_is ha)
          go_wp2_with fail
          refine H.out.mono ?_
          clear H
          rintro e w' ⟨rfl, rfl⟩
          go_wp2_with fail
          go_ret
          exact ⟨rfl, Hbel.out.trans ((Hk.out.mono (K' := fun b => b < w.heap.size) (fun b _ h => HK1.out b h)).below_of Hbel.out.size)⟩

set_option maxRecDepth 100000 in
theorem lifted (os : Os) (started : os.Started) (H : Type) (enc : TypeId × Value → H) :
    ReturnsInHanded {} Try.checked os 12 .any (Rows.cellChainSpec.pre6 enc Try.prog Try.f12 Rows.cellChainRow.domain false) (Rows.cellChainSpec.post enc Try.prog Try.f12 false true false false) := by
  refine returnsInHanded_of_change (C := Try.checked) own_ started (by kernel_rfl) Try.func12
    (ChangeSpec.witness6 (enc := enc) (C := Try.checked) false ⟨#[], #[.int .i64 0], []⟩ 8 (by kernel_rfl) (by kernel_rfl) (by kernel_rfl) (by kernel_rfl)) ?_
  intro W base args ds gs before hval0 hW _ _
  have hval : ∀ (j : Nat) t v, Try.f12.params[j]? = some t → args[j]? = some v → Value.okWide Try.prog W .any base t v := hval0
  have hW' := hW
  obtain ⟨p, q, hA0, hV, rfl, hfz, hnd⟩ := hW
  have hA : DataW.TrodAll enc Try.prog W 0 (fun _ => true) true Try.f12.params.toList args.toList ds p := hA0
  rw [Try.params12] at hA hval
  obtain ⟨v0, vs0, d0, ds0, p0, q0, hargs, rfl, rfl, h0, r0⟩ := trodAll_cons hA
  obtain ⟨rfl, rfl, rfl⟩ := trodAll_nil r0
  obtain rfl : args = #[v0] := by cases args; simp_all
  obtain ⟨a0, rfl, rfl, rfl, w0⟩ := open_int Try.underlying3 (hval 0 3 v0 rfl rfl) h0
  clear hA0 hval0
  refine (walk a0 w0 W).mono fun e W' ⟨he, hg⟩ => ?_
  subst he
  exact ⟨_, rfl, law_post laid_ (by kernel_rfl) rfl hW' hg rfl Try.underlying4 ⟨rfl, rfl, rfl⟩⟩

theorem over : Rows.cellChainRow.holds Try.pinned (OpenSpec.ofChange Rows.cellChainSpec) :=
  OpenClaim.holds_of_wide 12 Try.f12 rfl rfl rfl rfl rfl rfl rfl ⟨rfl, rfl, rfl, rfl, rfl⟩ rfl rfl rfl rfl rfl (by kernel_rfl) Try.func12 (by kernel_rfl)
    (of_decide_eq_true (by kernel_rfl)) (by unfold Func.isWrapper; first | (rw [if_pos (by decide +kernel)]; kernel_rfl) | (rw [if_neg (by decide +kernel)]; exact ⟨rfl, rfl⟩))
    (fun os started H enc _ => lifted os started H enc)

theorem proved : Rows.CellChainSaid :=
  over
#print axioms proved
end Go.Proofs.Ytajkhkgakafgkaa.cellChain
