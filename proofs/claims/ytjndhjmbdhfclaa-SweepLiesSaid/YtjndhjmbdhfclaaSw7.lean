/- Package sweep: whether all is counted. -/
import Derived.Test.YtjndhjmbdhfclaaSw6
namespace Go.Proofs.Ytjndhjmbdhfclaa
set_option maxRecDepth 100000
open Go.RowKit

/-- While Audit counts. -/
structure AD (w : World) (p ab xb mb n : Nat) (f : Int → Int) (W : World) : Prop where
  bel : Below w.heap.size w W
  ca : W.cell? ⟨ab, 0, none⟩ = some (.pointer (some ⟨p, 0, none⟩))
  cx : W.cell? ⟨xb, 0, none⟩ = some (.map (some mb))
  mp : IMap W mb n f
  na : ab ≠ mb
  nx : xb ≠ mb
  lm : w.heap.size ≤ mb
section
variable {K : Nat → Prop} {w W W' : World} {p ab xb mb n n' : Nat} {f g : Int → Int} {s : Ar}
theorem AD.calls (h : AD w p ab xb mb n f W) (hb : Below W.heap.size W W') : AD w p ab xb mb n f W' :=
  ⟨h.bel.trans (hb.mono h.bel.size), (hb.cell (p := ⟨ab, 0, none⟩) (cells_lt h.ca)).trans h.ca, (hb.cell (p := ⟨xb, 0, none⟩) (cells_lt h.cx)).trans h.cx, h.mp.same (hb.block _ h.mp.lt), h.na, h.nx, h.lm⟩
theorem AD.put (h : AD w p ab xb mb n f W) (hm : IMap W' mb n' g) (hg : W.grownBy W' (some mb)) : AD w p ab xb mb n' g W' := by
  have c : ∀ b v, b ≠ mb → W.cell? ⟨b, 0, none⟩ = some v → W'.cell? ⟨b, 0, none⟩ = some v := fun b v hb hc => by
    have hk : Kept (fun x => x = b) W W' := (Kept.refl _ W).grown hg fun k e => by cases e; exact .inl fun e => hb e.symm
    exact (hk.cell (cells_lt hc) rfl).trans hc
  exact ⟨h.bel.grown hg h.bel.size fun k e => by cases e; exact h.lm, c _ _ h.na h.ca, c _ _ h.nx h.cx, hm, h.na, h.nx, h.lm⟩
theorem AD.congr (h : AD w p ab xb mb n f W) (hg : ∀ k, (Lit.int .i64 k).wf = true → f k = g k) (hn : n ≤ n') : AD w p ab xb mb n' g W := ⟨h.bel, h.ca, h.cx, (h.mp.congr hg).mono hn, h.na, h.nx, h.lm⟩
/-- The kids of these nodes. -/
def kidsOf (s : Ar) (l : List Int) : List Int := l.flatMap fun h => (s.nd h.toNat).kids
theorem kidsOf_len (s : Ar) : ∀ l, (kidsOf s l).length = 4 * l.length
  | [] => rfl
  | x :: l => by
    have := kidsOf_len s l
    unfold kidsOf at this ⊢
    rw [List.flatMap_cons, List.length_append, this]
    simp [Nd.kids]; omega
def auditSees (s : Ar) (held : List Int) : Bool := held.all (fun h => h == 0 || s.count h != 0) && !(liveTo s s.n).any fun h => s.count h != (((held ++ waitTo s s.n ++ kidsOf s (liveTo s s.n)).count h : Nat) : Int)
theorem AD.inc {l : List Int} {y z : Int} (h : AD w p ab xb mb n (fun x => (l.count x : Int)) W) (hm : IMap W' mb (n + 1) (updI (fun x => (l.count x : Int)) y z)) (hz : z = (l.count y : Int) + 1) (hg : W.grownBy W' (some mb)) : AD w p ab xb mb (n + 1) (fun x => ((l ++ [y]).count x : Int)) W' := by
  refine (h.put hm hg).congr (fun k _ => ?_) (Nat.le_refl _)
  unfold updI
  rw [count_snoc]
  by_cases e : k = y
  · subst e; rw [if_pos rfl, if_pos rfl, hz]; omega
  · rw [if_neg e, if_neg fun h => e h.symm]; rfl
theorem take_snoc (xs : List Int) {t : Nat} (h : t < xs.length) : xs.take (t + 1) = xs.take t ++ [xs.getD t 0] := by
  rw [List.take_add_one, List.getElem?_eq_getElem h, List.getD_eq_getElem?_getD, List.getElem?_eq_getElem h]
  rfl
theorem getD_mem (xs : List Int) {t : Nat} (h : t < xs.length) : xs.getD t 0 ∈ xs := by
  rw [List.getD_eq_getElem?_getD, List.getElem?_eq_getElem h]; exact List.getElem_mem _
theorem live_mem {x : Int} (h : x ∈ liveTo s s.n) : s.count x ≠ 0 ∧ 1 ≤ x ∧ x ≤ s.n := by
  unfold liveTo at h
  obtain ⟨h1, h2⟩ := List.mem_filter.1 h
  have := mem_upto.1 h1
  have h2' : s.count x > 0 := by simpa using h2
  exact ⟨by omega, this.1, this.2⟩
theorem wait_mem (hk : ∀ i, s.u i = true → ∀ k, k ∈ (s.nd i).kids → 0 ≤ k ∧ k ≤ 1000000) : ∀ m x, x ∈ waitTo s m → 0 ≤ x ∧ x ≤ 1000000
  | 0, x, h => by cases h
  | m + 1, x, h => by
    unfold waitTo at h
    rcases List.mem_append.1 h with h | h
    · exact wait_mem hk m x h
    · by_cases e : s.u (m + 1) = true ∧ s.count ((m : Int) + 1) = 0
      · rw [if_pos e] at h; exact hk _ e.1 x h
      · rw [if_neg e] at h; cases h
def Seen (s : Ar) (l : List Int) : Prop := ∀ x, x ∈ l → (x == 0 || s.count x != 0) = true
theorem Seen.snoc {l l' : List Int} {y : Int} (h : Seen s l) (e : l' = l ++ [y]) (hy : (y == 0 || s.count y != 0) = true) : Seen s l' := fun x hx => by
  rw [e] at hx
  rcases List.mem_append.1 hx with g | g
  · exact h x g
  · obtain rfl : x = y := by simpa using g
    exact hy
set_option maxHeartbeats 16000000 in
theorem audit_is {v : Value} {held : List Int} (ha : Ars w K p s) (hf : s.Fit) (hn : s.n ≤ 100000) (hv : Ints w v held) (hl : held.length ≤ 100000) (hr : ∀ x, x ∈ held → 0 ≤ x ∧ x ≤ 1000000) (hu : ∀ i, s.u i = false → s.c i = 0) (hk : ∀ i, s.u i = true → ∀ k, k ∈ (s.nd i).kids → 0 ≤ k ∧ k ≤ 1000000) :
    Calls Try.prog 36 #[.pointer (some ⟨p, 0, none⟩), v] w fun e w' => e = .returned (.bool (auditSees s held)) ∧ Below w.heap.size w w' := by
  have Ha := Lib.hid ha
  have Hf := Lib.hid hf
  have Hv := Lib.hid hv
  obtain ⟨av, cv, hev⟩ := hv.slice
  have Hwl := Lib.hid (waitTo_len s s.n)
  have Hll := Lib.hid (liveTo_len s s.n)
  have Hn := Lib.hid hn
  have Hl := Lib.hid hl
  have Hr := Lib.hid hr
  have Hw := Lib.hid (wait_mem hk s.n)
  have Hu := Lib.hid hu
  have Hk := Lib.hid hk
  have hmm := @run_makeMap Try.prog
  have h0 : AD w p w.heap.size (w.heap.size + 1 + 1) (w.heap.size + 1) 0 (fun x => (([] : List Int).count x : Int)) (((w.alloc (.cells #[.pointer (some ⟨p, 0, none⟩)] 23)).alloc (.map #[] 0)).alloc (.cells #[.map (some (w.heap.size + 1))] 66)) := by
    have b1 : Below w.heap.size w (w.alloc (.cells #[.pointer (some ⟨p, 0, none⟩)] 23)) := (Below.refl _ _).alloc (Nat.le_refl _) _
    have b2 := b1.alloc (o := .map #[] 0) b1.size
    have z1 : (w.alloc (.cells #[.pointer (some ⟨p, 0, none⟩)] 23)).heap.size = w.heap.size + 1 := by simp
    have z2 : ((w.alloc (.cells #[.pointer (some ⟨p, 0, none⟩)] 23)).alloc (.map #[] 0)).heap.size = w.heap.size + 1 + 1 := by simp
    have c1 : (w.alloc (.cells #[.pointer (some ⟨p, 0, none⟩)] 23)).cell? ⟨w.heap.size, 0, none⟩ = some (.pointer (some ⟨p, 0, none⟩)) := cell_new rfl rfl
    have b3 : Below (w.alloc (.cells #[.pointer (some ⟨p, 0, none⟩)] 23)).heap.size (w.alloc (.cells #[.pointer (some ⟨p, 0, none⟩)] 23)) (((w.alloc (.cells #[.pointer (some ⟨p, 0, none⟩)] 23)).alloc (.map #[] 0)).alloc (.cells #[.map (some (w.heap.size + 1))] 66)) := ((Below.refl _ _).alloc (Nat.le_refl _) _).alloc (by rw [z1, z2]; omega) _
    refine ⟨b2.alloc b2.size _, (b3.cell (p := ⟨w.heap.size, 0, none⟩) (by show w.heap.size < _; omega)).trans c1, by rw [← z2]; exact cell_new rfl rfl, ?_, by omega, by omega, by omega⟩
    have := IMap.new (w.alloc (.cells #[.pointer (some ⟨p, 0, none⟩)] 23))
    rw [World.size_alloc] at this
    exact (this.same (Below.heap_alloc _ _ _ (by simp))).congr fun k _ => by simp
  have D0 := Lib.hid h0
  have H1 := Lib.hid (waiting_is (Ha.out.below h0.bel) hf)
  have s0 : (((w.alloc (.cells #[.pointer (some ⟨p, 0, none⟩)] 23)).alloc (.map #[] 0)).alloc (.cells #[.map (some (w.heap.size + 1))] 66)).heap.size = w.heap.size + 1 + 1 + 1 := by simp
  have S0 := Lib.hid s0
  subst hev
  clear ha hf hv hn hr hk hu h0 s0
  go_enter Try.func36, Try.ntmps36
  go_wp2_with fail
  clear hmm
  generalize (((w.alloc (.cells #[.pointer (some ⟨p, 0, none⟩)] 23)).alloc (.map #[] 0)).alloc (.cells #[.map (some (w.heap.size + 1))] 66)) = w0 at *
  obtain ⟨ab, hab⟩ : ∃ b, Hid (b = w.heap.size) := ⟨_, rfl⟩
  refine H1.out.mono ?_
  clear H1
  rintro e w1 ⟨v1, K1, rfl, hl1, hk1, hb1⟩
  obtain ⟨a1, c1, rfl⟩ := hl1.slice
  have D1 := Lib.hid (D0.out.calls hb1)
  have D2 := Lib.hid (D1.out.calls ((Below.refl _ _).alloc (Nat.le_refl _) (.cells #[.slice av held.length cv, .slice a1 (waitTo s s.n).length c1] 33)))
  have hx0 : (w1.alloc (.cells #[.slice av held.length cv, .slice a1 (waitTo s s.n).length c1] 33)).cell? ⟨w1.heap.size, 0, none⟩ = some (.slice av held.length cv) := cell_new rfl rfl
  have hx1 : (w1.alloc (.cells #[.slice av held.length cv, .slice a1 (waitTo s s.n).length c1] 33)).cell? ⟨w1.heap.size, 1, none⟩ = some (.slice a1 (waitTo s s.n).length c1) := cell_new rfl rfl
  have H2 := Lib.hid (concat_two hx0 hx1 (by simp) (Hv.out.below D2.out.bel) (hl1.ints.below ((Below.refl _ _).alloc (Nat.le_refl _) _)) (by omega) (by have := Hwl.out; have := Hn.out; omega))
  have S2 := Lib.hid (show w.heap.size + 1 < (w1.alloc (.cells #[.slice av held.length cv, .slice a1 (waitTo s s.n).length c1] 33)).heap.size by have := S0.out; have := hb1.size; simp; omega)
  have hc2 := D1.out.ca
  have hv2 : (∃ (aa : Option Addr), aa = some (⟨w.heap.size, 0, none⟩ : Addr)) := ⟨_, rfl⟩
  clear hl1 hk1 hb1 hx0 hx1 hv2
  go_wp2_with fail
  refine H2.out.mono ?_
  clear H2 hc2
  rintro e w3 ⟨v3, K3, rfl, hl3, hk3, hb3⟩
  have D3 := Lib.hid (D2.out.calls hb3)
  have L3 := Lib.hid hl3
  have HK3 := Lib.hid (show ¬ K3 (w.heap.size + 1) from fun e => by have := (hk3 _ e).1; have := S2.out; omega)
  obtain ⟨l1, hl1⟩ : ∃ l1, Hid (held ++ waitTo s s.n = l1) := ⟨_, rfl⟩
  have Ln1 := Lib.hid (show l1.length ≤ 500000 by rw [← hl1.out, List.length_append]; have := Hwl.out; have := Hn.out; omega)
  have Rn1 := Lib.hid (show ∀ x, x ∈ l1 → 0 ≤ x ∧ x ≤ 1000000 from fun x hx => by rw [← hl1.out] at hx; rcases List.mem_append.1 hx with h | h; exact Hr.out x h; exact Hw.out x h)
  rw [hl1.out] at L3
  generalize (w1.alloc (.cells #[.slice av held.length cv, .slice a1 (waitTo s s.n).length c1] 33)).heap.size = B3 at *
  generalize w.heap.size + 1 = mb at *
  clear D0 D1 D2 hl3 hk3 hb3 S2 S0
  obtain ⟨M, hM⟩ : ∃ M, l1.length = M := ⟨_, rfl⟩
  obtain ⟨a3, c3, e3⟩ := L3.out.slice
  subst e3
  rw [hM]
  rw [hM] at L3
  have HM := Lib.hid hM
  clear hM
  go_wp2_with fail
  go_loopw [24] (fun i W => ∃ t : Nat, i = .int .i64 t ∧ t ≤ M ∧ AD w p w.heap.size (mb + 1) mb t (fun x => ((l1.take t).count x : Int)) W ∧ Lst W B3 K3 (.slice a3 M c3) l1) (fun i _ => M - (intOf i).toNat)
  case atStart => exact ⟨0, rfl, by omega, by simpa using D3.out, L3.out⟩
  case round =>
    obtain ⟨t, rfl, t1, hd, hl⟩ := hrel
    have D := Lib.hid hd
    have L := Lib.hid hl
    have HK := HK3
    clear hd hl D3 L3 HK3
    by_cases ht : t < M
    · obtain ⟨g, cp, hsl, hcp, hKg, hcells⟩ := L.out.at_ (i := 0) (by rw [HM.out]; omega)
      have hcg : a3 = some ⟨g, 0, none⟩ := by injection hsl
      subst hcg
      have hcp : M ≤ c3 := by injection hsl with _ _ e; rw [e, ← HM.out]; exact hcp
      have hc := hcells t (by rw [HM.out]; exact ht)
      have hyr := Lib.hid (Rn1.out _ (getD_mem l1 (t := t) (by rw [HM.out]; exact ht)))
      have Htk := Lib.hid (take_snoc l1 (t := t) (by rw [HM.out]; exact ht))
      have Htl := Lib.hid (List.length_take_le t l1)
      have Hmm := Lib.hid (show M ≤ 500000 by rw [← HM.out]; exact Ln1.out)
      have hMM := Hmm.out
      clear hcells hsl
      generalize l1.getD t 0 = y at hc hyr Htk
      obtain ⟨cy, hcy⟩ : ∃ cy : Int, Hid (((l1.take t).count y : Int) = cy) := ⟨_, rfl⟩
      have hcl : 0 ≤ cy ∧ cy ≤ 10000000 := by rw [← hcy.out]; have := List.count_le_length (a := y) (l := l1.take t); have := Htl.out; have := Hmm.out; omega
      have wy : (Lit.int .i64 y).wf = true := WalkArith.wf_i64 (by have := hyr.out; omega)
      have hlk : (Instr.lookup 66 (.map (some mb)) (.int .i64 y) false).run Try.prog wr = .ok (.int .i64 cy) wr := by rw [← hcy.out]; exact D.out.mp.look wy
      have hcx := D.out.cx
      go_wp2_with (at_mapUpdate; refine wpList_imap_put D.out.mp (by have := Hmm.out; omega) rfl _ _ _ rfl rfl _ _ rfl rfl wy ?wv ?_)
      case wv => exact WalkArith.wf_i64 (by omega)
      intro w5 hm5 hg5
      have D5 := Lib.hid (D.out.inc (y := y) (z := cy + 1) (hm5.congr fun z _ => by first | rfl | (unfold updI; split; rfl; simp)) (by rw [hcy.out]) hg5)
      have L5 := Lib.hid (L.out.kept ((Kept.refl _ wr).grown hg5 fun k e => by cases e; exact .inl HK.out))
      clear hm5 hg5 hlk hcx wy hcl
      go_wp2_with fail
      go_roundw
      case rel => exact ⟨t + 1, by go_num, by omega, by rw [Htk.out]; exact D5.out, L5.out⟩
      case measure => simp [intOf]; omega
    · obtain rfl : M = t := by omega
      have htl : l1.take M = l1 := by rw [← HM.out, List.take_length]
      have hd2 := D.out
      rw [htl] at hd2
      have DA := Lib.hid hd2
      have Hmm := Lib.hid (show M ≤ 500000 by rw [← HM.out]; exact Ln1.out)
      obtain ⟨wo, rfl⟩ : ∃ wo : World, wo = wr := ⟨_, rfl⟩
      have HO := Lib.hid (hl1.out)
      clear htl hd2 D L HK t1 ht Ln1 Rn1
      go_wp2_with fail
      go_loopw [35] (fun i W => ∃ t : Nat, i = .int .i64 t ∧ t ≤ held.length ∧ W = wo ∧ Seen s (held.take t)) (fun i _ => held.length - (intOf i).toNat)
      case atStart => exact ⟨0, rfl, by omega, rfl, fun x hx => by cases hx⟩
      case round =>
        obtain ⟨t, rfl, t1, rfl, hall⟩ := hrel
        have Hall := Lib.hid hall
        clear hall
        by_cases ht : t < held.length
        · have Iv := Hv.out.below DA.out.bel
          rcases Iv with ⟨e1, e2⟩ | ⟨b, off, c, e1, h1, h2, h3⟩
          · rw [e2] at ht; cases ht
          · injection e1 with e1 _ e3
            subst e1 e3
            have hc := h3 t ht
            have Hy := Lib.hid (Hr.out _ (getD_mem held ht))
            have Hin := Lib.hid (getD_mem held ht)
            have Htk := Lib.hid (take_snoc held ht)
            have hca := DA.out.ca
            clear h1 h3
            generalize held.getD t 0 = y at hc Hy Hin Htk
            by_cases hy0 : y = 0
            · subst hy0
              clear hca
              go_wp2_with fail
              go_roundw
              case rel => exact ⟨t + 1, by go_num, by omega, by first | rfl | trivial, Hall.out.snoc Htk.out rfl⟩
              case measure => simp [intOf]; omega
            · have hne : (y == 0) = false := by simpa using hy0
              have H := Lib.hid (count_is y rfl (Ha.out.below DA.out.bel) Hf.out)
              by_cases hc0 : s.count y = 0
              · have hfalse : auditSees s held = false := by
                  unfold auditSees
                  rw [Bool.and_eq_false_iff]
                  left
                  rw [List.all_eq_false]
                  exact ⟨y, Hin.out, by rw [hne, hc0]; simp⟩
                have HF := Lib.hid hfalse
                have H' := H.out
                rw [hc0] at H'
                have H2 := Lib.hid H'
                have hb := DA.out.bel
                have HB := Lib.hid hb
                clear hfalse H' H hb
                go_wp2_with (go_at_call 21; refine H2.out.mono ?_; rintro e w' ⟨rfl, rfl⟩)
                go_ret
                exact ⟨by rw [HF.out]; rfl, HB.out⟩
              · have hce : (s.count y == 0) = false := by simpa using hc0
                have Hc := Lib.hid (Hall.out.snoc Htk.out (by simp [hc0]))
                clear hc0
                generalize s.count y = cc at *
                go_wp2_with (go_at_call 21; refine H.out.mono ?_; rintro e w' ⟨rfl, rfl⟩)
                go_roundw
                case rel => exact ⟨t + 1, by go_num, by omega, by first | rfl | trivial, Hc.out⟩
                case measure => simp [intOf]; omega
        · obtain rfl : t = held.length := by omega
          have hA := Hall.out
          rw [List.take_length] at hA
          have HA := Lib.hid (show held.all (fun h => h == 0 || s.count h != 0) = true from List.all_eq_true.2 hA)
          clear hA Hall ht
          have H1 := Lib.hid (live_is (Ha.out.below DA.out.bel) Hf.out)
          have hca := DA.out.ca
          go_wp2_with fail
          refine H1.out.mono ?_
          clear H1 hca
          rintro e w4 ⟨v4, K4, rfl, hl4, hk4, hb4⟩
          have D4 := Lib.hid (DA.out.calls hb4)
          have L4 := Lib.hid hl4
          have HK4 := Lib.hid (show ¬ K4 mb from fun e => by have := (hk4 _ e).1; have := DA.out.mp.lt; omega)
          obtain ⟨l2, hl2⟩ : ∃ l2, Hid (liveTo s s.n = l2) := ⟨_, rfl⟩
          rw [hl2.out] at L4
          have Rn2 := Lib.hid (show ∀ x, x ∈ l2 → s.count x ≠ 0 ∧ 1 ≤ x ∧ x ≤ s.n from fun x hx => live_mem (hl2.out ▸ hx))
          have Ln2 := Lib.hid (show l2.length ≤ 100000 by rw [← hl2.out]; have := Hll.out; have := Hn.out; omega)
          clear hl4 hk4 hb4 DA
          generalize wr.heap.size = B4 at *
          obtain ⟨J, hJ⟩ : ∃ J, l2.length = J := ⟨_, rfl⟩
          obtain ⟨a4, c4, e4⟩ := L4.out.slice
          subst e4
          rw [hJ]
          rw [hJ] at L4
          have HJ := Lib.hid hJ
          clear hJ
          go_wp2_with fail
          go_loopw [52] (fun i W => ∃ t : Nat, i = .int .i64 t ∧ t ≤ J ∧ AD w p w.heap.size (mb + 1) mb (M + 4 * t) (fun x => ((l1 ++ kidsOf s (l2.take t)).count x : Int)) W ∧ Lst W B4 K4 (.slice a4 J c4) l2) (fun i _ => J - (intOf i).toNat)
          case atStart => exact ⟨0, rfl, by omega, by simpa [kidsOf] using D4.out, L4.out⟩
          case round =>
            obtain ⟨t, rfl, t1, hd, hl⟩ := hrel
            have D := Lib.hid hd
            have L := Lib.hid hl
            have HK := HK4
            clear hd hl D4 L4 HK4
            by_cases ht : t < J
            · obtain ⟨g, cp, hsl, hcp, hKg, hcells⟩ := L.out.at_ (i := 0) (by rw [HJ.out]; omega)
              have hcg : a4 = some ⟨g, 0, none⟩ := by injection hsl
              subst hcg
              have hcp : J ≤ c4 := by injection hsl with _ _ e; rw [e, ← HJ.out]; exact hcp
              have hc := hcells t (by rw [HJ.out]; exact ht)
              have Hyr := Lib.hid (Rn2.out _ (getD_mem l2 (t := t) (by rw [HJ.out]; exact ht)))
              have Htk := Lib.hid (take_snoc l2 (t := t) (by rw [HJ.out]; exact ht))
              have Hjj := Lib.hid (show J ≤ 100000 by rw [← HJ.out]; exact Ln2.out)
              have hJJ := Hjj.out
              have hca := D.out.ca
              clear hcells hsl
              generalize l2.getD t 0 = y at hc Hyr Htk
              obtain ⟨x, hx⟩ : ∃ x, Hid (s.nd y.toNat = x) := ⟨_, rfl⟩
              have hgt : s.get y = (x, true) := by
                obtain ⟨q1, q2, q3⟩ := count_pos Hyr.out.1
                have hu1 : s.u y.toNat = true := by
                  cases e : s.u y.toNat
                  · exact absurd (q3.trans (Hu.out _ e)) Hyr.out.1
                  · rfl
                unfold Ar.get
                rw [if_neg (by rw [hu1]; simp; omega), hx.out]
              have Hkr := Lib.hid (show ∀ k, k ∈ x.kids → 0 ≤ k ∧ k ≤ 1000000 by
                obtain ⟨q1, q2, q3⟩ := count_pos Hyr.out.1
                have hu1 : s.u y.toNat = true := by
                  cases e : s.u y.toNat
                  · exact absurd (q3.trans (Hu.out _ e)) Hyr.out.1
                  · rfl
                rw [← hx.out]
                exact Hk.out _ hu1)
              have H5 := Lib.hid (get_is y hgt (Ha.out.below D.out.bel) Hf.out)
              have Hks := Lib.hid (show kidsOf s (l2.take (t + 1)) = kidsOf s (l2.take t) ++ x.kids by rw [Htk.out]; unfold kidsOf; rw [List.flatMap_append]; simp [hx.out])
              clear hgt
              go_wp2_with fail
              refine H5.out.mono ?_
              clear H5 hca
              rintro e w5 ⟨rfl, _, hb5⟩
              have D5 := Lib.hid (D.out.calls hb5)
              have L5 := Lib.hid (L.out.of_below (hb5.mono (Nat.le_refl _)))
              have D6 := Lib.hid (D5.out.calls ((Below.refl _ _).alloc (Nat.le_refl _) (.cells #[.int .i64 x.tag, .int .i64 x.k0, .int .i64 x.k1, .int .i64 x.k2, .int .i64 x.k3, .int .u64 x.A, .int .u64 x.B] 31)))
              have L6 := Lib.hid (L5.out.of_below ((Below.refl _ _).alloc (Nat.le_refl _) (.cells #[.int .i64 x.tag, .int .i64 x.k0, .int .i64 x.k1, .int .i64 x.k2, .int .i64 x.k3, .int .u64 x.A, .int .u64 x.B] 31)))
              clear hb5 D5 L5 D L hc Hyr
              go_wp2_with fail
              generalize w5.alloc (.cells #[.int .i64 x.tag, .int .i64 x.k0, .int .i64 x.k1, .int .i64 x.k2, .int .i64 x.k3, .int .u64 x.A, .int .u64 x.B] 31) = w6 at *
              obtain ⟨A, hA⟩ : ∃ A, Hid (l1 ++ kidsOf s (l2.take t) = A) := ⟨_, rfl⟩
              have Hal := Lib.hid (show A.length ≤ 900000 by
                rw [← hA.out, List.length_append, HM.out]
                have := kidsOf_len s (l2.take t)
                have := List.length_take_le t l2
                have := Hmm.out
                omega)
              have d6 := D6.out
              rw [hA.out] at d6
              have D6' := Lib.hid d6
              clear d6 D6
              go_loopw [64] (fun i W => ∃ j : Nat, ((i = .int .i64 0 ∧ j = 0) ∨ (i = .int .i64 1 ∧ j = 1) ∨ (i = .int .i64 2 ∧ j = 2) ∨ (i = .int .i64 3 ∧ j = 3) ∨ (i = .int .i64 4 ∧ j = 4)) ∧ AD w p w.heap.size (mb + 1) mb (M + 4 * t + j) (fun z => ((A ++ x.kids.take j).count z : Int)) W ∧ Lst W B4 K4 (.slice (some ⟨g, 0, none⟩) J c4) l2) (fun i _ => 4 - (intOf i).toNat)
              case atStart => exact ⟨0, .inl ⟨rfl, rfl⟩, by simpa using D6'.out, L6.out⟩
              case round =>
                obtain ⟨j, hj, hd, hl⟩ := hrel
                have D := Lib.hid hd
                have L := Lib.hid hl
                clear hd hl D6' L6
                rcases hj with hj | hj | hj | hj | hj
                · obtain ⟨rfl, rfl⟩ := hj
                  have hkr := Hkr.out x.k0 (by simp [Nd.kids])
                  have e9 : A ++ x.kids.take 0 ++ [x.k0] = A ++ x.kids.take 1 := by simp [Nd.kids]
                  have Hkr2 := Lib.hid hkr
                  have E9 := Lib.hid e9
                  have Hlen := Lib.hid (show (A ++ x.kids.take 0).length ≤ 900004 by rw [List.length_append]; have := Hal.out; have := List.length_take_le 0 x.kids; omega)
                  clear hkr e9 hJJ
                  have hix := ix4_0 (.int .i64 x.k0) (.int .i64 x.k1) (.int .i64 x.k2) (.int .i64 x.k3) wr
                  obtain ⟨cy, hcy⟩ : ∃ cy : Int, Hid (((A ++ x.kids.take 0).count x.k0 : Int) = cy) := ⟨_, rfl⟩
                  have hcl : 0 ≤ cy ∧ cy ≤ 10000000 := by rw [← hcy.out]; have := List.count_le_length (a := x.k0) (l := A ++ x.kids.take 0); have := Hlen.out; omega
                  have wy : (Lit.int .i64 x.k0).wf = true := WalkArith.wf_i64 (by have := Hkr2.out; omega)
                  have hlk : (Instr.lookup 66 (.map (some mb)) (.int .i64 x.k0) false).run Try.prog wr = .ok (.int .i64 cy) wr := by rw [← hcy.out]; exact D.out.mp.look wy
                  have hcx := D.out.cx
                  go_wp2_with (at_mapUpdate; refine wpList_imap_put D.out.mp (by have := Hmm.out; have := Hjj.out; omega) rfl _ _ _ rfl rfl _ _ rfl rfl wy ?wv ?_)
                  case wv => exact WalkArith.wf_i64 (by omega)
                  intro w5 hm5 hg5
                  have D5 := Lib.hid (D.out.inc (y := x.k0) (z := cy + 1) (hm5.congr fun z _ => by first | rfl | (unfold updI; split; rfl; simp)) (by rw [hcy.out]) hg5)
                  have L5 := Lib.hid (L.out.kept ((Kept.refl _ wr).grown hg5 fun k e => by cases e; exact .inl HK.out))
                  clear hm5 hg5 hlk hcx wy hcl
                  go_wp2_with fail
                  go_roundw
                  case rel => exact ⟨1, by simp, by have := D5.out; rw [E9.out] at this; exact this, L5.out⟩
                  case measure => simp [intOf]
                · obtain ⟨rfl, rfl⟩ := hj
                  have hkr := Hkr.out x.k1 (by simp [Nd.kids])
                  have e9 : A ++ x.kids.take 1 ++ [x.k1] = A ++ x.kids.take 2 := by simp [Nd.kids]
                  have Hkr2 := Lib.hid hkr
                  have E9 := Lib.hid e9
                  have Hlen := Lib.hid (show (A ++ x.kids.take 1).length ≤ 900004 by rw [List.length_append]; have := Hal.out; have := List.length_take_le 1 x.kids; omega)
                  clear hkr e9 hJJ
                  have hix := ix4_1 (.int .i64 x.k0) (.int .i64 x.k1) (.int .i64 x.k2) (.int .i64 x.k3) wr
                  obtain ⟨cy, hcy⟩ : ∃ cy : Int, Hid (((A ++ x.kids.take 1).count x.k1 : Int) = cy) := ⟨_, rfl⟩
                  have hcl : 0 ≤ cy ∧ cy ≤ 10000000 := by rw [← hcy.out]; have := List.count_le_length (a := x.k1) (l := A ++ x.kids.take 1); have := Hlen.out; omega
                  have wy : (Lit.int .i64 x.k1).wf = true := WalkArith.wf_i64 (by have := Hkr2.out; omega)
                  have hlk : (Instr.lookup 66 (.map (some mb)) (.int .i64 x.k1) false).run Try.prog wr = .ok (.int .i64 cy) wr := by rw [← hcy.out]; exact D.out.mp.look wy
                  have hcx := D.out.cx
                  go_wp2_with (at_mapUpdate; refine wpList_imap_put D.out.mp (by have := Hmm.out; have := Hjj.out; omega) rfl _ _ _ rfl rfl _ _ rfl rfl wy ?wv ?_)
                  case wv => exact WalkArith.wf_i64 (by omega)
                  intro w5 hm5 hg5
                  have D5 := Lib.hid (D.out.inc (y := x.k1) (z := cy + 1) (hm5.congr fun z _ => by first | rfl | (unfold updI; split; rfl; simp)) (by rw [hcy.out]) hg5)
                  have L5 := Lib.hid (L.out.kept ((Kept.refl _ wr).grown hg5 fun k e => by cases e; exact .inl HK.out))
                  clear hm5 hg5 hlk hcx wy hcl
                  go_wp2_with fail
                  go_roundw
                  case rel => exact ⟨2, by simp, by have := D5.out; rw [E9.out] at this; exact this, L5.out⟩
                  case measure => simp [intOf]
                · obtain ⟨rfl, rfl⟩ := hj
                  have hkr := Hkr.out x.k2 (by simp [Nd.kids])
                  have e9 : A ++ x.kids.take 2 ++ [x.k2] = A ++ x.kids.take 3 := by simp [Nd.kids]
                  have Hkr2 := Lib.hid hkr
                  have E9 := Lib.hid e9
                  have Hlen := Lib.hid (show (A ++ x.kids.take 2).length ≤ 900004 by rw [List.length_append]; have := Hal.out; have := List.length_take_le 2 x.kids; omega)
                  clear hkr e9 hJJ
                  have hix := ix4_2 (.int .i64 x.k0) (.int .i64 x.k1) (.int .i64 x.k2) (.int .i64 x.k3) wr
                  obtain ⟨cy, hcy⟩ : ∃ cy : Int, Hid (((A ++ x.kids.take 2).count x.k2 : Int) = cy) := ⟨_, rfl⟩
                  have hcl : 0 ≤ cy ∧ cy ≤ 10000000 := by rw [← hcy.out]; have := List.count_le_length (a := x.k2) (l := A ++ x.kids.take 2); have := Hlen.out; omega
                  have wy : (Lit.int .i64 x.k2).wf = true := WalkArith.wf_i64 (by have := Hkr2.out; omega)
                  have hlk : (Instr.lookup 66 (.map (some mb)) (.int .i64 x.k2) false).run Try.prog wr = .ok (.int .i64 cy) wr := by rw [← hcy.out]; exact D.out.mp.look wy
                  have hcx := D.out.cx
                  go_wp2_with (at_mapUpdate; refine wpList_imap_put D.out.mp (by have := Hmm.out; have := Hjj.out; omega) rfl _ _ _ rfl rfl _ _ rfl rfl wy ?wv ?_)
                  case wv => exact WalkArith.wf_i64 (by omega)
                  intro w5 hm5 hg5
                  have D5 := Lib.hid (D.out.inc (y := x.k2) (z := cy + 1) (hm5.congr fun z _ => by first | rfl | (unfold updI; split; rfl; simp)) (by rw [hcy.out]) hg5)
                  have L5 := Lib.hid (L.out.kept ((Kept.refl _ wr).grown hg5 fun k e => by cases e; exact .inl HK.out))
                  clear hm5 hg5 hlk hcx wy hcl
                  go_wp2_with fail
                  go_roundw
                  case rel => exact ⟨3, by simp, by have := D5.out; rw [E9.out] at this; exact this, L5.out⟩
                  case measure => simp [intOf]
                · obtain ⟨rfl, rfl⟩ := hj
                  have hkr := Hkr.out x.k3 (by simp [Nd.kids])
                  have e9 : A ++ x.kids.take 3 ++ [x.k3] = A ++ x.kids.take 4 := by simp [Nd.kids]
                  have Hkr2 := Lib.hid hkr
                  have E9 := Lib.hid e9
                  have Hlen := Lib.hid (show (A ++ x.kids.take 3).length ≤ 900004 by rw [List.length_append]; have := Hal.out; have := List.length_take_le 3 x.kids; omega)
                  clear hkr e9 hJJ
                  have hix := ix4_3 (.int .i64 x.k0) (.int .i64 x.k1) (.int .i64 x.k2) (.int .i64 x.k3) wr
                  obtain ⟨cy, hcy⟩ : ∃ cy : Int, Hid (((A ++ x.kids.take 3).count x.k3 : Int) = cy) := ⟨_, rfl⟩
                  have hcl : 0 ≤ cy ∧ cy ≤ 10000000 := by rw [← hcy.out]; have := List.count_le_length (a := x.k3) (l := A ++ x.kids.take 3); have := Hlen.out; omega
                  have wy : (Lit.int .i64 x.k3).wf = true := WalkArith.wf_i64 (by have := Hkr2.out; omega)
                  have hlk : (Instr.lookup 66 (.map (some mb)) (.int .i64 x.k3) false).run Try.prog wr = .ok (.int .i64 cy) wr := by rw [← hcy.out]; exact D.out.mp.look wy
                  have hcx := D.out.cx
                  go_wp2_with (at_mapUpdate; refine wpList_imap_put D.out.mp (by have := Hmm.out; have := Hjj.out; omega) rfl _ _ _ rfl rfl _ _ rfl rfl wy ?wv ?_)
                  case wv => exact WalkArith.wf_i64 (by omega)
                  intro w5 hm5 hg5
                  have D5 := Lib.hid (D.out.inc (y := x.k3) (z := cy + 1) (hm5.congr fun z _ => by first | rfl | (unfold updI; split; rfl; simp)) (by rw [hcy.out]) hg5)
                  have L5 := Lib.hid (L.out.kept ((Kept.refl _ wr).grown hg5 fun k e => by cases e; exact .inl HK.out))
                  clear hm5 hg5 hlk hcx wy hcl
                  go_wp2_with fail
                  go_roundw
                  case rel => exact ⟨4, by simp, by have := D5.out; rw [E9.out] at this; exact this, L5.out⟩
                  case measure => simp [intOf]
                · obtain ⟨rfl, rfl⟩ := hj
                  have d9 := D.out
                  rw [show A ++ x.kids.take 4 = l1 ++ kidsOf s (l2.take (t + 1)) by rw [Hks.out, ← List.append_assoc, hA.out]; rfl] at d9
                  have D9 := Lib.hid d9
                  clear d9
                  go_wp2_with fail
                  go_roundw
                  case rel => exact ⟨t + 1, by go_num, by omega, by have := D9.out; rwa [show M + 4 * t + 4 = M + 4 * (t + 1) by omega] at this, L.out⟩
                  case measure => simp [intOf]; omega
            · obtain rfl : J = t := by omega
              have htl : l2.take J = l2 := by rw [← HJ.out, List.take_length]
              have hd2 := D.out
              rw [htl] at hd2
              have DB := Lib.hid hd2
              have hca := hd2.ca
              have hcx := hd2.cx
              have H7 := Lib.hid (any_told (v := .slice a4 J c4) (Ha.out.below hd2.bel) Hf.out hca hcx hd2.mp L.out.ints (fun x hx => by have := Rn2.out x hx; have := Hn.out; omega) (by have := Ln2.out; omega))
              have HA2 := Lib.hid (show auditSees s held = !l2.any fun h => s.count h != ((l1 ++ kidsOf s l2).count h : Nat) by
                unfold auditSees
                rw [HA.out, hl2.out, hl1.out, Bool.true_and])
              clear htl hd2 D hca hcx
              have HB := Lib.hid DB.out.bel
              generalize (l2.any fun h => s.count h != ((l1 ++ kidsOf s l2).count h : Nat)) = bb at *
              go_wp2_with fail
              refine H7.out.mono ?_
              clear H7
              rintro e w7 ⟨rfl, q, rfl⟩
              go_wp2_with fail
              go_ret
              exact ⟨by rw [HA2.out]; rfl, Go.Proofs.below_drewN' HB.out q⟩
end
end Go.Proofs.Ytjndhjmbdhfclaa
