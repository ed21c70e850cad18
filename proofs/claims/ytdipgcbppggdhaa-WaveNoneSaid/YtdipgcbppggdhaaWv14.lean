/- Rows of symbols that are made one by one: the arena between; a column of symbols. -/
import Derived.Test.YtdipgcbppggdhaaWv13
import Derived.Test.YtdipgcbppggdhaaGpJ
namespace Go.Proofs.Ytdipgcbppggdhaa
set_option maxRecDepth 100000
open Go.RowKit
section
variable {s s' : Ar} {L L' : List Int} {h q : Int} {xs ys : List Nat}
theorem getD_mem {α : Type} {zs : List α} {j : Nat} {d : α} (h : j < zs.length) : zs.getD j d ∈ zs := by
  rw [List.getD_eq_getElem?_getD, List.getElem?_eq_getElem h]
  exact List.getElem_mem h
/-- Where none waits, no more are used than a closed list that holds the roots has. -/
theorem busy_cover (g : Gd s L) (hw : s.wt = []) {l : List Int} (h1 : ∀ h, h ∈ L → s.count h ≠ 0 → h ∈ l) (h2 : ∀ x k, x ∈ l → k ∈ (s.nd x.toNat).kids → s.count k ≠ 0 → k ∈ l) : s.busy ≤ l.length := by
  rw [g.busy_is]
  have : (usedL s).length ≤ l.length := nodup_sub (usedL_nodup s) fun x hx => by
    have hr := used_reached g hw hx
    clear hx
    induction hr with
    | root a b => exact h1 _ a b
    | kid _ a b ih => exact h2 _ _ ih a b
  omega
theorem busy_one (g : Gd s [h]) (hw : s.wt = []) (r : WRep s 9 h xs) : s.busy ≤ 27 * xs.length := by
  obtain ⟨l, a, b, c⟩ := wrep_cover r
  have := busy_cover g hw (l := l) (fun y hy hc => by obtain rfl := List.mem_singleton.1 hy; exact b hc) c
  omega
theorem busy_two {g' : Int} (g : Gd s [h, g']) (hw : s.wt = []) (r : WRep s 9 h xs) (r' : WRep s 9 g' ys) : s.busy ≤ 27 * xs.length + 27 * ys.length := by
  obtain ⟨l, a, b, c⟩ := wrep_cover r
  obtain ⟨l', a', b', c'⟩ := wrep_cover r'
  have := busy_cover g hw (l := l ++ l') (fun y hy hc => by
    have : y = h ∨ y = g' := by simpa using hy
    rcases this with rfl | rfl
    · exact List.mem_append_left _ (b hc)
    · exact List.mem_append_right _ (b' hc)) (fun x k hx hk hc => by
    rcases List.mem_append.1 hx with hx | hx
    · exact List.mem_append_left _ (c x k hx hk hc)
    · exact List.mem_append_right _ (c' x k hx hk hc))
  rw [List.length_append] at this
  omega
theorem WRow.work (r : WRow s L h xs) (g : Gd s L) (m : Nat) : WRow (s.work m).1 L h xs := ⟨r.rep.work r.had m g, r.had, r.len, r.sym⟩
theorem WRow.drop (r : WRow s L h xs) (i : Int) (hm : h = 0 ∨ h ∈ L') : WRow (s.drop i).1 L' h xs := ⟨r.rep.ext (ext_drop s i), hm, r.len, r.sym⟩
theorem WRow.range (r : WRow s L h xs) : 0 ≤ h ∧ h ≤ s.n := r.rep.range
theorem WRow.nil_iff (r : WRow s L h xs) : h = 0 ↔ xs = [] := r.rep.nil_iff
/-- Between two symbols that are put in. -/
structure WSt (s : Ar) (h : Int) (xs : List Nat) : Prop where
  gd : Gd s [h]
  row : WRow s [h] h xs
  wt : s.wt = []
  mb : s.made - s.busy ≤ 6000 * xs.length
  n : s.n = 6000
theorem WSt.busy (W : WSt s h xs) : s.busy ≤ 27 * xs.length := busy_one W.gd W.wt W.row.rep
theorem WSt.new : WSt (Ar.new 6000) 0 [] := ⟨(gd_new (by decide) (by decide)).zero, WRow.zero _ _, rfl, by show (0 : Int) ≤ _; omega, rfl⟩
theorem hi_sm {N : Nat} (hN : N ≤ 80) : hi N ≤ 4 := by
  unfold hi
  repeat' split
  all_goals omega
theorem wins_take {zs : List Nat} {j : Nat} (h : j < zs.length) : wIns (zs.take j) j (zs.getD j 0) = zs.take (j + 1) := by
  unfold wIns
  rw [List.take_of_length_le (by rw [List.length_take]; omega), List.drop_eq_nil_of_le (by rw [List.length_take]; omega), List.take_add_one]
  simp [List.getD, h]
/-- One symbol more; the elder row is dropped, and what waits is freed. -/
theorem WSt.next (W : WSt s h xs) {i v : Nat} (hi' : i ≤ xs.length) (hl : xs.length ≤ 70) (hv : v < 257) : ∃ s1 q, Snd s1 ∧ Snd (s1.drop h).1 ∧ WSt ((s1.drop h).1.work 1073741824).1 q (wIns xs i v) ∧ (h = 0 → (s1.drop h).1 = s1) ∧
    ∀ {K : Nat → Prop} {p : Nat} {w : World}, Ars w K p s → Calls Try.prog 17 #[.pointer (some ⟨p, 0, none⟩), .int .i64 h, .int .i64 i, .int .i64 v] w fun o w' => o = .returned (.tuple #[.int .i64 q, .int .i64 0]) ∧ Ars w' K p s1 ∧ Kept K w w' := by
  have hb := W.busy
  have hmb := W.mb
  have hn := W.n
  have hs := hi_sm (N := xs.length) (by omega)
  have hlen := wIns_len (v := v) hi'
  obtain ⟨s1, q, W1, g1, r1, c1⟩ := wInsert_yes W.gd W.row hi' (by omega) hv (by simp) (by omega) (by omega)
  have md := W1.md
  have n1 := W1.ext.n
  have g2 : Gd (s1.drop h).1 [q] := gd_drop g1.swap W.row.range.1 (by have := W.row.range.2; omega)
  have r2 : WRow (s1.drop h).1 [q] q (wIns xs i v) := r1.drop h (.inr List.mem_cons_self)
  have bl2 := g2.busy_le
  have nn2 := g2.n2
  have hd1 := drop_busy s1 h
  have hd2 := drop_made s1 h
  have hd3 := drop_n s1 h
  have g3 := gd_work g2 1073741824
  have bl3 := g3.busy_le
  have w1 := work_made 1073741824 (s1.drop h).1
  have w2 := work_nn 1073741824 (s1.drop h).1
  refine ⟨s1, q, g1.snd (by simp) (by omega), g2.snd (by simp) (by omega), ⟨g3, r2.work g2 _, work_none 1073741824 _ g2 (by omega), ?_, by omega⟩, fun e => ?_, fun ha => c1 ha⟩
  · omega
  · subst e
    unfold Ar.drop
    rw [if_pos (count_zero' s1)]
end
section
variable {K : Nat → Prop} {p : Nat} {w : World} {v : Value} {zs : List Nat}
def WBuilt (K : Nat → Prop) (p : Nat) (zs : List Nat) (w : World) (e : Ending) (w' : World) : Prop := ∃ s' q, e = .returned (.tuple #[.int .i64 q, .bool true]) ∧ WSt s' q zs ∧ Ars w' K p s' ∧ Kept K w w'
def WLoop (K : Nat → Prop) (p : Nat) (zs : List Nat) (w : World) (h k : Value) (W : World) : Prop := ∃ (s : Ar) (hh : Int) (j : Nat), h = .int .i64 hh ∧ k = .int .i64 (j : Int) ∧ j ≤ zs.length ∧ WSt s hh (zs.take j) ∧ Ars W K p s ∧ Kept K w W
set_option maxRecDepth 100000 in
set_option maxHeartbeats 8000000 in
theorem wbuild_is (hz : ∀ x, x ∈ zs → x < 257) (hl : zs.length ≤ 60) (ha : Ars w K p (Ar.new 6000)) (hv : ∀ W, Kept K w W → IV W v (zl zs)) :
    Calls Try.prog 12 #[.pointer (some ⟨p, 0, none⟩), v] w (WBuilt K p zs w) := by
  obtain ⟨av, cv, hsl⟩ := (hv w (Kept.refl _ _)).1
  obtain ⟨n, hn⟩ : ∃ n, n = zs.length := ⟨_, rfl⟩
  rw [zl_len, ← hn] at hsl
  have HN := Lib.hid hn
  have HZ := Lib.hid hz
  have Hl := Lib.hid hl
  have J0 := Lib.hid (show WSt (Ar.new 6000) 0 (zs.take 0) ∧ Ars w K p (Ar.new 6000) ∧ Kept K w w from ⟨WSt.new, ha, Kept.refl _ _⟩)
  subst hsl
  have HV := Lib.hid hv
  have hnI : (n : Int) ≤ 60 := by omega
  clear hz hl ha hv hn
  go_enter Try.func12, Try.ntmps12
  go_wp2_with fail
  go_loopw [6, 13] (WLoop K p zs w) (fun _ k _ => n - (intOf k).toNat)
  case atStart => exact ⟨_, 0, 0, rfl, rfl, Nat.zero_le _, J0.out⟩
  case round =>
    obtain ⟨s, h, j, rfl, rfl, hj, hw, ha, hk⟩ := hrel
    have HWt := Lib.hid hw
    have A0 := Lib.hid ha
    have K0 := Lib.hid hk
    have HJ := Lib.hid hj
    clear hw ha hk J0 hj
    by_cases hjn : j < n
    · obtain ⟨b, off, c, hv, hbl, hc, hcell⟩ := (HV.out wr K0.out).2 (by rw [zl_len, ← HN.out]; omega)
      injection hv with hv1 hv3 hv2
      clear hv3
      subst hv1 hv2
      have hcj := hcell j (by rw [zl_len, ← HN.out]; exact hjn)
      obtain ⟨s1, q, f1, f2, f3, f4, f5⟩ := HWt.out.next (i := j) (v := zs.getD j 0) (by rw [List.length_take]; have := HN.out; omega) (by rw [List.length_take]; have := Hl.out; omega) (HZ.out _ (getD_mem (by have := HN.out; omega)))
      have HT := Lib.hid (wins_take (zs := zs) (j := j) (by have := HN.out; omega))
      have HJ := Lib.hid (show j < zs.length by have := HN.out; omega)
      have hgz : (zl zs).getD j 0 = ((zs.getD j 0 : Nat) : Int) := by
        have : j < zs.length := HJ.out
        unfold zl
        simp [List.getD, this]
      rw [hgz] at hcj
      have HI := Lib.hid (f5 (w := wr) A0.out)
      have F1 := Lib.hid f1
      have F2 := Lib.hid f2
      have HW := Lib.hid f3
      have F4 := Lib.hid f4
      have i0 : (0 : Int) ≤ (j : Int) := by omega
      have i1 : (j : Int) < (n : Int) := by omega
      have hcn : n ≤ cv := by rw [zl_len, ← HN.out] at hc; exact hc
      clear f1 f2 f3 f4 f5 hgz hcell hc hbl
      generalize zs.getD j 0 = vj at *
      by_cases hh : h = 0
      · have e0 : (h == 0) = true := by simpa using hh
        have e1 : (h != 0) = false := by simpa using hh
        have HW2 := HW.out
        rw [F4.out hh] at HW2
        have HF := Lib.hid HW2
        clear hh HW2 HW
        have HW := HF
        clear HF
        go_wp2_with fail
        refine HI.out.mono ?_
        rintro e w3 ⟨rfl, ha, hk⟩
        have A3 := Lib.hid ha
        have K3 := Lib.hid (K0.out.trans hk)
        clear ha hk HI hcj
        go_wp2_with fail
        refine (work_is (B := 100000000000) 1073741824 (s := s1) (s' := ((s1).work 1073741824).1) (n := ((s1).work 1073741824).2) rfl rfl A3.out F1.out (by decide) (by decide)).mono ?_
        rintro e w7 ⟨rfl, ha, hk⟩
        have A7 := Lib.hid ha
        have K7 := Lib.hid (K3.out.trans hk)
        clear ha hk
        go_wp2_with fail
        go_roundw
        case rel =>
          have hw := HW.out
          rw [HT.out] at hw
          exact ⟨_, _, j + 1, rfl, by go_num, by have := HJ.out; omega, hw, A7.out, K7.out⟩
        case measure => simp [intOf]; omega
      · have e0 : (h == 0) = false := by simpa using hh
        have e1 : (h != 0) = true := by simpa using hh
        clear hh F4
        go_wp2_with fail
        refine HI.out.mono ?_
        rintro e w3 ⟨rfl, ha, hk⟩
        have A3 := Lib.hid ha
        have K3 := Lib.hid (K0.out.trans hk)
        clear ha hk HI hcj
        go_wp2_with fail
        refine (drop_is h (s' := (s1.drop h).1) (e := (s1.drop h).2) rfl A3.out F1.out.fit).mono ?_
        rintro e w4 ⟨rfl, ha, hk⟩
        have A4 := Lib.hid ha
        have K4 := Lib.hid (K3.out.trans hk)
        clear ha hk
        go_wp2_with fail
        refine (work_is (B := 100000000000) 1073741824 (s := (s1.drop h).1) (s' := (((s1.drop h).1).work 1073741824).1) (n := (((s1.drop h).1).work 1073741824).2) rfl rfl A4.out F2.out (by decide) (by decide)).mono ?_
        rintro e w7 ⟨rfl, ha, hk⟩
        have A7 := Lib.hid ha
        have K7 := Lib.hid (K4.out.trans hk)
        clear ha hk
        go_wp2_with fail
        go_roundw
        case rel =>
          have hw := HW.out
          rw [HT.out] at hw
          exact ⟨_, _, j + 1, rfl, by go_num, by have := HJ.out; omega, hw, A7.out, K7.out⟩
        case measure => simp [intOf]; omega
    · have hjn' : j = n := by have := HJ.out; have := HN.out; omega
      have HE := Lib.hid (show zs.take j = zs from List.take_of_length_le (by have := HN.out; omega))
      have hge : ¬ ((j : Int) < (n : Int)) := by omega
      clear hjn hjn'
      go_wp2_with fail
      go_ret2
      have hw := HWt.out
      rw [HE.out] at hw
      exact ⟨_, _, rfl, hw, A0.out, K0.out⟩
end
section
variable {w : World} {v : Value} {xs : List Int}
set_option maxRecDepth 100000 in
set_option maxHeartbeats 4000000 in
/-- All are symbols, or one is none. -/
theorem column_is (hx : IV w v xs) (hl : xs.length ≤ 1000000) : Calls Try.prog 9 #[v] w fun e w' => e = .returned (.bool (xs.all fun x => decide (0 ≤ x ∧ x < 257))) ∧ ∃ q, w' = w.drewN q := by
  obtain ⟨n, hn⟩ : ∃ n, Hid (xs.length = n) := ⟨_, rfl⟩
  have hl' : n ≤ 1000000 := hn.out ▸ hl
  have HX := Lib.hid hx
  obtain ⟨av, cv, rfl⟩ := hx.1
  rw [hn.out] at HX ⊢
  obtain ⟨r, hr⟩ : ∃ r, r = xs.all fun x => decide (0 ≤ x ∧ x < 257) := ⟨_, rfl⟩
  rw [← hr]
  have HR := Lib.hid hr
  clear hx hl hr
  go_enter Try.func9, Try.ntmps9
  go_wp2_with fail
  go_loopw [3] (fun i W => ∃ t q : Nat, i = .int .i64 t ∧ t ≤ n ∧ (∀ k, k < t → 0 ≤ xs.getD k 0 ∧ xs.getD k 0 < 257) ∧ W = w.drewN q) (fun i _ => n - (intOf i).toNat)
  case atStart => exact ⟨0, 0, rfl, by omega, fun k hk => absurd hk (Nat.not_lt_zero k), rfl⟩
  case round =>
    obtain ⟨t, q, rfl, t1, hall, rfl⟩ := hrel
    have HA := Lib.hid hall
    clear hall
    by_cases ht : t < n
    · obtain ⟨b1, o1, c1, e1, h1, h2, h3⟩ := HX.out.2 (by rw [hn.out]; omega)
      injection e1 with e1 e2 e3
      clear e2
      subst e1 e3
      have hca := h3 t (by rw [hn.out]; exact ht)
      rw [hn.out] at h2
      have i0 : (0 : Int) ≤ (t : Int) := by omega
      have i1 : (t : Int) < (n : Int) := by omega
      have HT := Lib.hid (show xs.getD t 0 ∈ xs from getD_mem (by rw [hn.out]; exact ht))
      clear h3 h1
      have HA2 := Lib.hid (show 0 ≤ xs.getD t 0 → xs.getD t 0 < 257 → ∀ k, k < t + 1 → 0 ≤ xs.getD k 0 ∧ xs.getD k 0 < 257 from fun a b k hk => by
        by_cases c : k = t
        · rw [c]; exact ⟨a, b⟩
        · exact HA.out k (by omega))
      generalize xs.getD t 0 = y at *
      by_cases y0 : y < 0
      · have HF := Lib.hid (show r = false by rw [HR.out, List.all_eq_false]; exact ⟨y, HT.out, by simp; omega⟩)
        go_wp2_with fail
        go_ret
        exact ⟨by rw [HF.out]; first | done | rfl, _, rfl⟩
      · have y0' : 0 ≤ y := by omega
        by_cases y1 : y < 257
        · clear y0
          go_wp2_with fail
          go_roundw
          case rel => exact ⟨t + 1, _, by go_num, by omega, HA2.out y0' y1, rfl⟩
          case measure => simp [intOf]; omega
        · have y1' : 257 ≤ y := by omega
          have HF := Lib.hid (show r = false by rw [HR.out, List.all_eq_false]; exact ⟨y, HT.out, by simp; omega⟩)
          clear y0 y1
          go_wp2_with fail
          go_ret
          exact ⟨by rw [HF.out]; first | done | rfl, _, rfl⟩
    · obtain rfl : t = n := by omega
      have HF := Lib.hid (show r = true by
        rw [HR.out, List.all_eq_true]
        intro x hx
        obtain ⟨k, hk, rfl⟩ := List.getElem_of_mem hx
        have := HA.out k (by rw [← hn.out]; exact hk)
        rw [List.getD_eq_getElem?_getD, List.getElem?_eq_getElem hk] at this
        simpa using this)
      go_wp2_with fail
      go_ret
      exact ⟨by rw [HF.out]; first | done | rfl, q, rfl⟩
end
end Go.Proofs.Ytdipgcbppggdhaa
