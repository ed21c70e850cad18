/- CellRaces holds: of those that read one number just one publishes; the others come too late, and leave nothing behind. No condition. -/
import Derived.Test.YtajkhkgakafgkaaC2
import Derived.Test.YtajkhkgakafgkaaPure2
import Derived.Test.YtajkhkgakafgkaaLaw
namespace Go.Proofs.Ytajkhkgakafgkaa.cellRaces
open Go.ChangeShapes Go.WideShapes Go.ChangeAt Go.RowKit
set_option linter.unusedVariables false

/-- i nodes were made; the first is the version; the others wait. -/
structure RA (s : Ar) (i : Nat) (B : Int) (root : Nd) : Prop where
  ok : s.Ok B
  n : s.n = 30
  u : ∀ j, s.u j = decide (1 ≤ j ∧ j ≤ i)
  zk : ∀ j, 1 ≤ j → j ≤ i → (s.nd j).kids = [0, 0, 0, 0]
  c1 : s.c 1 = 1
  n1 : s.nd 1 = root
  wt : ∀ h, h ∈ s.wt → 2 ≤ h ∧ h ≤ i
  wl : s.wt.length + 1 = i
  busy : s.busy = i
def nd (v : Int) : Nd := ⟨6, 0, 0, 0, 0, v, 0⟩
theorem first (v : Int) : (Ar.new 30).make (nd v) = ((Ar.new 30).put 1 (nd v), 1, 0) := make_leaf (by decide : (1 : Int) ≤ 6 ∧ (6 : Int) ≤ 6) rfl (by decide)
theorem RA_first (v : Int) : RA ((Ar.new 30).put 1 (nd v)) 1 4 (nd v) := by
  have ok := ok_make (ok_new (n := 30) (by decide) (by decide)) (nd v)
  rw [first] at ok
  refine ⟨ok, rfl, fun j => ?_, fun j h1 h2 => ?_, rfl, rfl, fun h hh => (by cases hh), rfl, rfl⟩
  · show upd _ 1 true j = _
    by_cases e : j = 1
    · subst e; rfl
    · rw [upd_ne _ _ e]; exact (decide_eq_false (by omega)).symm
  · obtain rfl : j = 1 := by omega
    rfl
theorem RA.make {s : Ar} {i : Nat} {B : Int} {root : Nd} (h : RA s i B root) (hi : i < 30) (v : Int) : s.make (nd v) = (s.put (i + 1) (nd v), ((i + 1 : Nat) : Int), 0) := by
  have hf : s.free = i + 1 := free_is (by omega) (by rw [h.n]; omega) (by rw [h.u]; exact decide_eq_false (by omega)) fun j h1 h2 => by rw [h.u]; exact decide_eq_true (by omega)
  rw [make_leaf (by decide : (1 : Int) ≤ 6 ∧ (6 : Int) ≤ 6) rfl (by omega), hf]
theorem RA.next {s : Ar} {i : Nat} {B : Int} {root : Nd} (h : RA s i B root) (h1 : 1 ≤ i) (hi : i < 30) (v : Int) :
    (s.put (i + 1) (nd v)).Ok (B + 4) ∧ ∃ s2, (s.put (i + 1) (nd v)).drop ((i + 1 : Nat) : Int) = (s2, 0) ∧ RA s2 (i + 1) (B + 4) root := by
  have ok := ok_make h.ok (nd v)
  rw [h.make hi] at ok
  have hc : (s.put (i + 1) (nd v)).count ((i + 1 : Nat) : Int) = 1 := by
    unfold Ar.count
    rw [if_neg (by show ¬ (((i + 1 : Nat) : Int) < 1 ∨ (s.n : Int) < ((i + 1 : Nat) : Int)); rw [h.n]; omega)]
    exact upd_same _ _ _
  have hd : (s.put (i + 1) (nd v)).drop ((i + 1 : Nat) : Int) = ((s.put (i + 1) (nd v)).drop1 ((i + 1 : Nat) : Int), 0) := by
    unfold Ar.drop
    rw [hc, if_neg (by decide)]
  have okd := ok_drop ok ((i + 1 : Nat) : Int)
  rw [hd] at okd
  have hw : ((s.put (i + 1) (nd v)).drop1 ((i + 1 : Nat) : Int)).wt = s.wt ++ [((i + 1 : Nat) : Int)] := by
    unfold Ar.drop1
    have : (s.put (i + 1) (nd v)).c ((i + 1 : Nat) : Int).toNat = 1 := upd_same _ _ _
    rw [this]
    rfl
  refine ⟨ok, _, hd, okd, h.n, fun j => ?_, fun j j1 j2 => ?_, ?_, ?_, fun x hx => ?_, ?_, ?_⟩
  · show upd s.u (i + 1) true j = _
    by_cases e : j = i + 1
    · subst e; rw [upd_same]; exact (decide_eq_true (by omega)).symm
    · rw [upd_ne _ _ e, h.u]
      by_cases g : 1 ≤ j ∧ j ≤ i
      · rw [decide_eq_true g, decide_eq_true (by omega)]
      · rw [decide_eq_false g, decide_eq_false (by omega)]
  · show (upd s.nd (i + 1) (nd v) j).kids = _
    by_cases e : j = i + 1
    · subst e; rw [upd_same]; rfl
    · rw [upd_ne _ _ e]; exact h.zk j j1 (by omega)
  · show upd (upd (bumps s.c [0, 0, 0, 0]) (i + 1) 1) _ _ 1 = 1
    rw [upd_ne _ _ (by omega), upd_ne _ _ (by omega), bumps_zero]
    exact h.c1
  · show upd s.nd (i + 1) (nd v) 1 = root
    rw [upd_ne _ _ (by omega)]
    exact h.n1
  · rw [hw] at hx
    rcases List.mem_append.1 hx with hx | hx
    · have := h.wt x hx; omega
    · have : x = ((i + 1 : Nat) : Int) := by simpa using hx
      omega
  · rw [hw, List.length_append]
    have := h.wl
    simp; omega
  · show s.busy + 1 = _
    rw [h.busy]; omega
theorem RA.work {s : Ar} {i : Nat} {B : Int} {root : Nd} (h : RA s i B root) (hi : i ≤ 30) : ∃ s', s.work 100 = (s', i - 1) ∧ s'.busy = 1 ∧ s'.get 1 = (root, true) := by
  have h1 : 1 ≤ i := by have := h.wl; omega
  obtain ⟨s', e1, e2, e3, e4, e5, e6, e7⟩ := work_leaves s.wt 100 s rfl h.ok.nodup (fun x hx => by
    have := h.wt x hx
    exact ⟨by omega, h.zk _ (by omega) (by omega)⟩) (by have := h.wl; omega)
  have hl : s.wt.length = i - 1 := by have := h.wl; omega
  refine ⟨s', by rw [e1, hl], by rw [e3, h.busy, hl]; omega, ?_⟩
  obtain ⟨a, b⟩ := e7 1 (fun hx => by have := h.wt _ hx; omega)
  unfold Ar.get
  rw [if_neg]
  · show (s'.nd 1, true) = _
    rw [a, h.n1]
  · rw [e5, h.n, show (1 : Int).toNat = 1 from rfl, b, h.u]
    simp
    omega

/-- At the loop's head. -/
def At (K : Nat → Prop) (q p i : Nat) (v : Int) (W : World) : Prop := (i = 0 ∧ Cel W K q p (Ar.new 30) 0 0 0) ∨ (1 ≤ i ∧ ∃ s, RA s i (4 * i) (nd v) ∧ Cel W K q p s 1 1 ((i : Int) - 1))
set_option maxHeartbeats 2000000 in
theorem walk (n : Int) (w0 : (Lit.int .i64 n).wf = true) (fst : Int) (w1 : (Lit.int .i64 fst).wf = true) (w : World) :
    Calls Try.prog 11 #[.int .i64 n, .int .i64 fst] w fun e w' => e = .returned (.bool true) ∧ Below w.heap.size w w' := by
  have HA := Lib.hid alive17
  obtain ⟨K, hK⟩ : ∃ K : Nat → Prop, K = fun b => b < w.heap.size := ⟨_, rfl⟩
  have HK := Lib.hid hK
  clear hK
  by_cases h1 : n < 1
  · skip
    go_enter Try.func11, Try.ntmps11
    go_wp2_with fail
    refine (HA.out w).mono ?_
    rintro e w1 ⟨rfl, hb⟩
    go_wp2_with fail
    go_ret
    exact ⟨rfl, hb⟩
  by_cases h2 : 20 < n
  · skip
    go_enter Try.func11, Try.ntmps11
    go_wp2_with fail
    refine (HA.out w).mono ?_
    rintro e w1 ⟨rfl, hb⟩
    go_wp2_with fail
    go_ret
    exact ⟨rfl, hb⟩
  obtain ⟨N, rfl⟩ := Int.eq_ofNat_of_zero_le (show 0 ≤ n by omega)
  obtain ⟨b1, b2, b3, b4⟩ := pick fst N (by omega)
  go_enter Try.func11, Try.ntmps11
  go_wp2_with fail
  refine (HA.out w).mono ?_
  rintro e w1 ⟨rfl, hb⟩
  have Hk := Lib.hid (Kept.of_below hb K)
  clear hb
  go_wp2_with fail
  refine (new_yes 30 _ (by decide) (by decide)).mono ?_
  rintro e w2 ⟨p, rfl, hb, ha⟩
  replace ha := ha K (fun b h => by rw [HK.out] at h; have := Hk.out.size; omega)
  replace Hk := Lib.hid (Hk.out.trans (Kept.of_below hb K))
  clear hb
  have H := Lib.hid (cnew_is ha)
  clear ha
  go_wp2_with fail
  refine H.out.mono ?_
  clear H
  rintro e w3 ⟨q, rfl, ha, hb⟩
  replace Hk := Lib.hid (Hk.out.trans (Kept.of_below hb K))
  clear hb
  go_wp2_with fail
  clear b3 b4
  simp only [Int.add_emod_right]
  generalize fst.tmod (N : Int) % (N : Int) = kk at *
  go_loopw [8, 9] (fun m i W => ∃ j : Nat, i = .int .i64 j ∧ j ≤ N ∧ m = .int .i64 (if j = 0 then 0 else 1) ∧ At K q p j kk W ∧ Kept K w W) (fun _ i _ => N - (intOf i).toNat)
  case atStart => exact ⟨0, rfl, by omega, rfl, .inl ⟨rfl, ha⟩, Hk.out⟩
  case round =>
    obtain ⟨j, rfl, j1, rfl, hat, hk⟩ := hrel
    replace Hk := Lib.hid hk
    clear hk ha
    by_cases hlt : j < N
    · rcases hat with ⟨rfl, ha⟩ | ⟨j3, s, hs, ha⟩
      · have Hf := Lib.hid (first kk)
        have Hr := Lib.hid (RA_first kk)
        have hm0 : kk % (N : Int) = kk := Int.emod_eq_of_lt b1 b2
        rw [if_pos rfl]
        have H := Lib.hid (cmake_is (nd kk) Hf.out ha (ok_new (by decide) (by decide)) (by decide))
        clear ha
        go_wp2_with fail
        refine H.out.mono ?_
        clear H
        rintro e w7 ⟨rfl, ha, hk⟩
        replace Hk := Lib.hid (Hk.out.trans hk)
        clear hk
        have H := Lib.hid (publish_now (s' := (Ar.new 30).put 1 (nd kk)) (e := 9) (root := 1) rfl (Hr.out.ok.fit (by decide)) (by decide) ha)
        clear ha
        go_wp2_with fail
        refine H.out.mono ?_
        clear H
        rintro e w8 ⟨rfl, ha, hk⟩
        replace Hk := Lib.hid (Hk.out.trans hk)
        clear hk
        go_wp2_with fail
        go_roundw
        case rel => exact ⟨1, rfl, by omega, rfl, .inr ⟨by omega, _, Hr.out, ha⟩, Hk.out⟩
        case measure => simp [intOf]; omega
      · have Hs := Lib.hid hs
        obtain ⟨ok1, s2, hd, hs2⟩ := hs.next j3 (by omega) (((j : Int) + kk) % N)
        have Hm := Lib.hid (hs.make (by omega) (((j : Int) + kk) % N))
        have Ok1 := Lib.hid ok1
        have Hd := Lib.hid hd
        have Hs2 := Lib.hid hs2
        have m1 := Int.emod_nonneg ((j : Int) + kk) (show (N : Int) ≠ 0 by omega)
        have m2 := Int.emod_lt_of_pos ((j : Int) + kk) (show 0 < (N : Int) by omega)
        clear hs ok1 hd hs2
        rw [if_neg (by omega)]
        rw [Hid, show ((j + 1 : Nat) : Int) = (j : Int) + 1 by omega] at Hm Hd
        replace Hm := Lib.hid Hm
        replace Hd := Lib.hid Hd
        have H := Lib.hid (cmake_is (nd (((j : Int) + kk) % N)) Hm.out ha Hs.out.ok (by omega))
        clear ha
        go_wp2_with fail
        refine H.out.mono ?_
        clear H
        rintro e w7 ⟨rfl, ha, hk⟩
        replace Hk := Lib.hid (Hk.out.trans hk)
        clear hk
        have H := Lib.hid (publish_late (from_ := 0) (root := (j : Int) + 1) (by decide) (by omega) ha)
        clear ha
        go_wp2_with fail
        refine H.out.mono ?_
        clear H
        rintro e w8 ⟨rfl, ha, hk⟩
        replace Hk := Lib.hid (Hk.out.trans hk)
        clear hk
        have H := Lib.hid (cdrop_is ((j : Int) + 1) Hd.out ha (Ok1.out.fit (by omega)))
        clear ha
        go_wp2_with fail
        refine H.out.mono ?_
        clear H
        rintro e w9 ⟨rfl, ha, hk⟩
        replace Hk := Lib.hid (Hk.out.trans hk)
        clear hk
        go_wp2_with fail
        go_roundw
        case rel => exact ⟨j + 1, by go_num, by omega, by rw [if_neg (by omega)], .inr ⟨by omega, s2, by rw [show 4 * ((j + 1 : Nat) : Int) = 4 * (j : Int) + 4 by omega]; exact Hs2.out, by rw [show ((j + 1 : Nat) : Int) - 1 = (j : Int) - 1 + 1 by omega]; exact ha⟩, Hk.out⟩
        case measure => simp [intOf]; omega
    · obtain rfl : N = j := by omega
      rcases hat with ⟨h, _⟩ | ⟨j3, s, hs, ha⟩
      · omega
      · obtain ⟨s', hw, hb, hg⟩ := hs.work (by omega)
        have hm0 : kk % (N : Int) = kk := Int.emod_eq_of_lt b1 b2
        have Hs := Lib.hid hs
        have Hw := Lib.hid hw
        have Hb := Lib.hid hb
        have Hg := Lib.hid hg
        have Ok2 : Hid (s'.Ok (4 * N)) := by have := ok_work 100 hs.ok; rw [hw] at this; exact this
        clear hs hw hb hg
        rw [if_neg (by omega)]
        have H := Lib.hid (cwork_is (m := (N : Int) - 1) 100 Hw.out (by omega) ha Hs.out.ok (by omega) (by decide))
        clear ha
        go_wp2_with fail
        refine H.out.mono ?_
        clear H
        rintro e w7 ⟨rfl, ha, hk⟩
        replace Hk := Lib.hid (Hk.out.trans hk)
        clear hk
        have H := Lib.hid (look_is ha)
        clear ha
        go_wp2_with fail
        refine H.out.mono ?_
        clear H
        rintro e w8 ⟨rfl, ha, hk⟩
        replace Hk := Lib.hid (Hk.out.trans (Kept.of_below hk _))
        clear hk
        have H := Lib.hid (cget_is (x := ⟨6, 0, 0, 0, 0, kk, 0⟩) (b := true) 1 Hg.out ha (Ok2.out.fit (by omega)))
        clear ha
        go_wp2_with fail
        refine H.out.mono ?_
        clear H
        rintro e w9 ⟨rfl, ha, hk⟩
        replace Hk := Lib.hid (Hk.out.trans (Kept.of_below hk _))
        clear hk
        replace ha := ha.alloc (.cells #[.int .i64 6, .int .i64 0, .int .i64 0, .int .i64 0, .int .i64 0, .int .u64 kk, .int .u64 0] 31)
        replace Hk := Lib.hid (Hk.out.alloc (.cells #[.int .i64 6, .int .i64 0, .int .i64 0, .int .i64 0, .int .i64 0, .int .u64 kk, .int .u64 0] 31))
        go_wp2_with fail
        go_quiet ((first | (go_at_call 29; exact quiet_is (fails_is (ha.drewN _))) | (go_at_call 17; exact quiet_is (cused_is (c := 1) Hb.out (ha.drewN _)))))
        go_wp2_with fail
        go_ret
        exact ⟨rfl, (Hk.out.drewN _).below fun b hb => by rw [HK.out]; exact hb⟩

set_option maxRecDepth 100000 in
theorem lifted (os : Os) (started : os.Started) (H : Type) (enc : TypeId × Value → H) :
    ReturnsInHanded {} Try.checked os 11 .any (Rows.cellRacesSpec.pre6 enc Try.prog Try.f11 Rows.cellRacesRow.domain false) (Rows.cellRacesSpec.post enc Try.prog Try.f11 false true false false) := by
  refine returnsInHanded_of_change (C := Try.checked) own_ started (by kernel_rfl) Try.func11
    (ChangeSpec.witness6 (enc := enc) (C := Try.checked) false ⟨#[], #[.int .i64 0, .int .i64 0], []⟩ 8 (by kernel_rfl) (by kernel_rfl) (by kernel_rfl) (by kernel_rfl)) ?_
  intro W base args ds gs before hval0 hW _ _
  have hval : ∀ (j : Nat) t v, Try.f11.params[j]? = some t → args[j]? = some v → Value.okWide Try.prog W .any base t v := hval0
  have hW' := hW
  obtain ⟨p, q, hA0, hV, rfl, hfz, hnd⟩ := hW
  have hA : DataW.TrodAll enc Try.prog W 0 (fun _ => true) true Try.f11.params.toList args.toList ds p := hA0
  rw [Try.params11] at hA hval
  obtain ⟨v0, vs0, d0, ds0, p0, q0, hargs, rfl, rfl, h0, r0⟩ := trodAll_cons hA
  obtain ⟨v1, vs1, d1, ds1, p1, q1, rfl, rfl, rfl, h1, r1⟩ := trodAll_cons r0
  obtain ⟨rfl, rfl, rfl⟩ := trodAll_nil r1
  obtain rfl : args = #[v0, v1] := by cases args; simp_all
  obtain ⟨a0, rfl, rfl, rfl, w0⟩ := open_int Try.underlying3 (hval 0 3 v0 rfl rfl) h0
  obtain ⟨a1, rfl, rfl, rfl, w1⟩ := open_int Try.underlying3 (hval 1 3 v1 rfl rfl) h1
  clear hA0 hval0
  refine (walk a0 w0 a1 w1 W).mono fun e W' ⟨he, hg⟩ => ?_
  subst he
  exact ⟨_, rfl, law_post laid_ (by kernel_rfl) rfl hW' hg rfl Try.underlying4 ⟨rfl, rfl, rfl⟩⟩

theorem over : Rows.cellRacesRow.holds Try.pinned (OpenSpec.ofChange Rows.cellRacesSpec) :=
  OpenClaim.holds_of_wide 11 Try.f11 rfl rfl rfl rfl rfl rfl rfl ⟨rfl, rfl, rfl, rfl, rfl⟩ rfl rfl rfl rfl rfl (by kernel_rfl) Try.func11 (by kernel_rfl)
    (of_decide_eq_true (by kernel_rfl)) (by unfold Func.isWrapper; first | (rw [if_pos (by decide +kernel)]; kernel_rfl) | (rw [if_neg (by decide +kernel)]; exact ⟨rfl, rfl⟩))
    (fun os started H enc _ => lifted os started H enc)

theorem proved : Rows.CellRacesSaid :=
  over
#print axioms proved
end Go.Proofs.Ytajkhkgakafgkaa.cellRaces
