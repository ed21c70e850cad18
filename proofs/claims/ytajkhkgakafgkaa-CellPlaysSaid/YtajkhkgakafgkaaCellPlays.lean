/- CellPlays holds: whoever reads, publishes, drops, in every order: each answer; each version's count; what nobody has is free. No condition. -/
import Derived.Test.YtajkhkgakafgkaaCp
import Derived.Test.YtajkhkgakafgkaaC2
import Derived.Test.YtajkhkgakafgkaaC3
import Derived.Test.YtajkhkgakafgkaaMap
import Derived.Test.YtajkhkgakafgkaaLs3
import Derived.Test.YtajkhkgakafgkaaFlat
import Derived.Deep.CutBlock
import Derived.Deep.DeepCutAuto
namespace Go.Proofs.Ytajkhkgakafgkaa.cellPlays
open Go.ChangeShapes Go.WideShapes Go.ChangeAt Go.RowKit
set_option linter.unusedVariables false

def opKs : List Lk := [.int .i64, .int .i64]
structure CS (w : World) (q p N j : Nat) (K Kl : Nat → Prop) (xs : List Int) (s : Ar) (r n f : Int) (v : Value) (W : World) : Prop where
  cel : Cel W K q p s r n f
  lst : Lst W w.heap.size Kl v xs
  sub : ∀ x, Kl x → K x
  cp : CP N s r xs (5 * j)
  len : xs.length ≤ j
  num : 0 ≤ n ∧ n ≤ j ∧ 0 ≤ f ∧ f ≤ j
  kK : ∀ x, x < w.heap.size → K x
  bel : Below w.heap.size w W
section
variable {w W W' : World} {q p N j : Nat} {K Kl : Nat → Prop} {xs : List Int} {s : Ar} {r n f : Int} {v : Value}
theorem CS.klt (h : CS w q p N j K Kl xs s r n f v W) : ∀ b, K b → b < W.heap.size := fun b hb => h.cel.ars.lt b (.inl hb)
theorem CS.below (h : CS w q p N j K Kl xs s r n f v W) (hb : Below W.heap.size W W') : CS w q p N j K Kl xs s r n f v W' :=
  ⟨h.cel.below hb, h.lst.kept (Kept.of_below hb Kl), h.sub, h.cp, h.len, h.num, h.kK, h.bel.trans (hb.mono h.bel.size)⟩
theorem CS.alloc (h : CS w q p N j K Kl xs s r n f v W) (o : Obj) : CS w q p N j K Kl xs s r n f v (W.alloc o) := h.below ((Below.refl _ _).alloc (Nat.le_refl _) o)
theorem CS.drewN (h : CS w q p N j K Kl xs s r n f v W) (m : Nat) : CS w q p N j K Kl xs s r n f v (W.drewN m) := h.below ⟨rfl, rfl, rfl, Nat.le_refl _, fun _ _ => rfl⟩
theorem CS.next (h : CS w q p N j K Kl xs s r n f v W) : CS w q p N (j + 1) K Kl xs s r n f v W :=
  ⟨h.cel, h.lst, h.sub, h.cp.mono (by omega), by have := h.len; omega, by have := h.num; omega, h.kK, h.bel⟩
/-- The cell, or its arena, has turned. -/
theorem CS.turn {s' : Ar} {r' n' f' B : Int} (h : CS w q p N j K Kl xs s r n f v W) (hc : Cel W' K q p s' r' n' f') (hk : Kept K W W') (hp : CP N s' r' xs B) (hB : B ≤ 5 * (j + 1 : Nat)) (hn : 0 ≤ n' ∧ n' ≤ (j : Int) + 1 ∧ 0 ≤ f' ∧ f' ≤ (j : Int) + 1) : CS w q p N (j + 1) K Kl xs s' r' n' f' v W' :=
  ⟨hc, h.lst.kept (hk.mono fun x _ hx => h.sub x hx), h.sub, hp.mono hB, by have := h.len; omega, by omega, h.kK, h.bel.trans ((hk.mono fun x _ hx => h.kK x hx).below_of h.bel.size)⟩
/-- One more was read. -/
theorem CS.push {W2 W3 : World} {s' : Ar} {B : Int} {Kl' : Nat → Prop} {v' : Value} (h : CS w q p N j K Kl xs s r n f v W) (hc : Cel W' K q p s' r n f) (hk : Kept K W W') (hp : CP N s' r (xs ++ [r]) B) (hB : B ≤ 5 * (j + 1 : Nat)) (hb : Below W'.heap.size W' W2) (hu : Pushed W2 W3 w.heap.size Kl Kl' v' (xs ++ [r])) :
    CS w q p N (j + 1) (fun x => K x ∨ Kl' x) Kl' (xs ++ [r]) s' r n f v' W3 := by
  have hc2 := hc.below hb
  refine ⟨hc2.step hu.size (fun x hx hnk => hu.same x hx fun hh => hnk (h.sub x hh)) (fun x hx => ?_), hu.lst, fun x hx => .inr hx, hp.mono hB, by have := h.len; simp; omega, by have := h.num; omega, fun x hx => .inl (h.kK x hx),
    (h.bel.trans ((hk.mono fun x _ hx => h.kK x hx).below_of h.bel.size)).trans ((hb.mono (Nat.le_trans h.bel.size hk.size)).trans hu.below)⟩
  rcases hx with hx | hx
  · exact ⟨Nat.lt_of_lt_of_le (hc2.ars.lt x (.inl hx)) hu.size, .inl hx⟩
  · obtain ⟨a, c⟩ := hu.new x hx
    exact ⟨a, c.imp (h.sub x) id⟩
/-- One that was read is dropped; the list is made anew. -/
theorem CS.less {W2 W3 : World} {s' : Ar} {K1 Kl' : Nat → Prop} {v1 v' : Value} {ys zs : List Int} (h : CS w q p N j K Kl xs s r n f v W) (hc : Cel W' K q p s' r n f) (hk : Kept K W W') (hp : CP N s' r (ys ++ zs) (5 * j)) (hl : (ys ++ zs).length ≤ xs.length)
    (h1 : PushedS W' W2 w.heap.size (fun _ => False) K1 v1 ys) (h2 : PushedS W2 W3 w.heap.size K1 Kl' v' (ys ++ zs)) :
    CS w q p N (j + 1) (fun x => K x ∨ Kl' x) Kl' (ys ++ zs) s' r n f v' W3 := by
  have hb1 : Below W'.heap.size W' W2 := ⟨h1.below.os, h1.below.tape, h1.below.output, h1.size, fun b hb => h1.same b hb fun e => e⟩
  have hn1 : ∀ b, K1 b → W'.heap.size ≤ b := fun b hb => by rcases (h1.new b hb).2 with e | e; exact e.elim; exact e
  have hb2 : Below W'.heap.size W' W3 := hb1.trans ⟨h2.below.os, h2.below.tape, h2.below.output, by have := h2.size; have := h1.size; omega, fun b hb => h2.same b (by have := h1.size; omega) fun e => by have := hn1 b e; omega⟩
  have hn2 : ∀ b, Kl' b → b < W3.heap.size ∧ W'.heap.size ≤ b := fun b hb => ⟨(h2.new b hb).1, by rcases (h2.new b hb).2 with e | e; exact hn1 b e; have := h1.size; omega⟩
  refine ⟨hc.step hb2.size (fun x hx _ => hb2.block x hx) (fun x hx => ?_), h2.lst, fun x hx => .inr hx, hp.mono (by omega), by have := h.len; omega, by have := h.num; omega, fun x hx => .inl (h.kK x hx),
    (h.bel.trans ((hk.mono fun x _ hx => h.kK x hx).below_of h.bel.size)).trans (hb2.mono (Nat.le_trans h.bel.size hk.size))⟩
  rcases hx with hx | hx
  · exact ⟨Nat.lt_of_lt_of_le (hc.ars.lt x (.inl hx)) hb2.size, .inl hx⟩
  · obtain ⟨a, c⟩ := hn2 x hx
    exact ⟨a, .inr c⟩
theorem CS.allocK (h : CS w q p N j K Kl xs s r n f v W) (o : Obj) : CS w q p N j (fun x => K x ∨ x = W.heap.size) Kl xs s r n f v (W.alloc o) :=
  ⟨h.cel.allocK o, (h.alloc o).lst, fun x hx => .inl (h.sub x hx), h.cp, h.len, h.num, fun x hx => .inl (h.kK x hx), (h.alloc o).bel⟩
/-- A write to a map of our own. -/
theorem CS.grown {c : Nat} (h : CS w q p N j K Kl xs s r n f v W) (hg : W.grownBy W' (some c)) (hc : K c) (hl : ¬ Kl c) (hw : w.heap.size ≤ c) : CS w q p N j K Kl xs s r n f v W' := by
  refine ⟨h.cel.step hg.size (fun x hx hk => hg.block x hx fun e => by cases e; exact hk hc) (fun x hx => ⟨Nat.lt_of_lt_of_le (h.klt x hx) hg.size, .inl hx⟩), h.lst.kept ((Kept.refl Kl W).grown hg fun k e => by cases e; exact .inl hl), h.sub, h.cp, h.len, h.num, h.kK, h.bel.grown hg h.bel.size fun k e => by cases e; exact hw⟩
end
def At (w : World) (q p N j : Nat) (r n f v : Value) (W : World) : Prop := ∃ r' n' f' K Kl xs s, r = .int .i64 r' ∧ n = .int .i64 n' ∧ f = .int .i64 f' ∧ CS w q p N j K Kl xs s r' n' f' v W
theorem CS.at_ {w W : World} {q p N j : Nat} {K Kl : Nat → Prop} {xs : List Int} {s : Ar} {r n f : Int} {v : Value} (h : CS w q p N j K Kl xs s r n f v W) : At w q p N j (.int .i64 r) (.int .i64 n) (.int .i64 f) v W := ⟨_, _, _, _, _, _, _, rfl, rfl, rfl, h⟩
set_option maxRecDepth 100000 in
set_option maxHeartbeats 4000000 in
theorem walk (n : Int) (w0 : (Lit.int .i64 n).wf = true) (v : Value) (m : Nat) (row : Nat → List Value) (w : World) (hx : FlatArg w v opKs m row) :
    Calls Try.prog 9 #[.int .i64 n, v] w fun e w' => e = .returned (.bool true) ∧ Below w.heap.size w w' := by
  have HA := Lib.hid alive17
  obtain ⟨va, vc, rfl⟩ := hx.val
  have hl := hx.len
  unfold maxLen at hl
  have Hx := Lib.hid hx
  clear hx
  by_cases h1 : n < 1
  · skip
    go_enter Try.func9, Try.ntmps9
    go_wp2_with fail
    refine (HA.out w).mono ?_
    rintro e w1 ⟨rfl, hb⟩
    go_wp2_with fail
    go_ret
    exact ⟨rfl, hb⟩
  by_cases h2 : 30 < n
  · skip
    go_enter Try.func9, Try.ntmps9
    go_wp2_with fail
    refine (HA.out w).mono ?_
    rintro e w1 ⟨rfl, hb⟩
    go_wp2_with fail
    go_ret
    exact ⟨rfl, hb⟩
  by_cases h3 : 100 < m
  · have h3' : decide ((100 : Int) < (m : Int)) = true := by simp; omega
    go_enter Try.func9, Try.ntmps9
    go_wp2_with fail
    refine (HA.out w).mono ?_
    rintro e w1 ⟨rfl, hb⟩
    go_wp2_with fail
    go_ret
    exact ⟨rfl, hb⟩
  have h3' : decide ((100 : Int) < (m : Int)) = false := by simp; omega
  obtain ⟨N, rfl⟩ := Int.eq_ofNat_of_zero_le (show 0 ≤ n by omega)
  obtain ⟨K, hK⟩ : ∃ K : Nat → Prop, K = fun b => b < w.heap.size := ⟨_, rfl⟩
  have HK := Lib.hid hK
  clear hK
  go_enter Try.func9, Try.ntmps9
  go_wp2_with fail
  refine (HA.out w).mono ?_
  rintro e w1 ⟨rfl, hb⟩
  have Hk := Lib.hid (Kept.of_below hb K)
  clear hb
  go_wp2_with fail
  refine (new_yes N _ (by omega) (by omega)).mono ?_
  rintro e w2 ⟨p, rfl, hb, ha⟩
  replace ha := ha K (fun b h => by rw [HK.out] at h; have := Hk.out.size; omega)
  replace Hk := Lib.hid (Hk.out.trans (Kept.of_below hb K))
  clear hb
  have H := Lib.hid (cnew_is ha)
  clear ha
  go_wp2_with fail
  refine H.out.mono ?_
  clear H
  rintro e w3 ⟨q, rfl, ha, hb⟩
  replace Hk := Lib.hid (Hk.out.trans (Kept.of_below hb K))
  clear hb
  have h0 : At w q p N 0 (.int .i64 0) (.int .i64 0) (.int .i64 0) (.slice none 0 0) w3 :=
    CS.at_ (Kl := fun _ => False) (xs := []) ⟨ha, Lst.nil _ _ _, fun x h => h.elim, cp_new (by omega) (by omega), Nat.le_refl _, by omega, fun x h => (by rw [HK.out]; exact h), Hk.out.below (fun b hb => by rw [HK.out]; exact hb)⟩
  clear ha Hk HK
  go_wp2_with fail
  go_loopw [7, 8, 9, 10, 53] (fun r n f v i W => ∃ j : Nat, i = .int .i64 j ∧ j ≤ m ∧ At w q p N j r n f v W) (fun _ _ _ _ i _ => m - (intOf i).toNat)
  case atStart => exact ⟨0, rfl, by omega, h0⟩
  case round =>
    obtain ⟨j, rfl, j1, hat⟩ := hrel
    clear h0
    by_cases hlt : j < m
    · obtain ⟨ba, off, c, hv, hba, hmc, hcells⟩ := Hx.out.cell j hlt
      have hok := Hx.out.ok j hlt
      obtain ⟨r, nu, fa, K, Kl, xs, s, rfl, rfl, rfl, hs⟩ := hat
      obtain ⟨L, HL⟩ : ∃ L, Hid (xs.length = L) := ⟨_, rfl⟩
      have hsl := hs.lst.slice
      rw [HL.out] at hsl
      obtain ⟨a, c', rfl⟩ := hsl
      have hcell := hcells j hlt
      obtain ⟨o0, e0, kd, rfl, wkd⟩ := hok.get (j := 0) rfl
      obtain ⟨o1, e1, nn, rfl, wnn⟩ := hok.get (j := 1) rfl
      cases hv
      have hbl : ∀ i, wr.cell? ⟨ba, off + i, none⟩ = w.cell? ⟨ba, off + i, none⟩ := fun i => hs.bel.cell (p := ⟨ba, off + i, none⟩) hba
      have c0 : wr.cell? ⟨ba, off + j * 2, none⟩ = some (.int .i64 kd) := (hbl _).trans ((hcell 0 (by decide)).trans e0)
      have c1 : wr.cell? ⟨ba, off + j * 2 + 1, none⟩ = some (.int .i64 nn) := (hbl _).trans ((hcell 1 (by decide)).trans e1)
      have Hs := Lib.hid (hs.allocK (.cells #[.int .i64 kd, .int .i64 nn] 53))
      obtain ⟨K1, hK1⟩ : ∃ K1 : Nat → Prop, (fun x => K x ∨ x = wr.heap.size) = K1 := ⟨_, rfl⟩
      rw [hK1] at Hs
      have zK : Hid (K1 wr.heap.size) := by rw [← hK1]; exact .inr rfl
      clear hK1
      have hbx := heap_alloc_new wr (.cells #[.int .i64 kd, .int .i64 nn] 53)
      have hlen := hs.len
      rw [HL.out] at hlen
      have hnum := hs.num
      clear hs hcells hcell hok hbl e0 e1
      go_upto_block 2 with fail
      generalize wr.alloc (.cells #[.int .i64 kd, .int .i64 nn] 53) = W1 at *
      generalize wr.heap.size = z at *
      have Hbx := Lib.hid hbx
      have d0 : W1.cell? ⟨z, 0, none⟩ = some (.int .i64 kd) := cell_of_row _ _ _ _ _ _ hbx
      have d1 : W1.cell? ⟨z, 1, none⟩ = some (.int .i64 nn) := cell_of_row _ _ _ _ _ _ hbx
      have zlt : z < W1.heap.size := lt_heap hbx
      clear c0 c1 hbx
      go_cut [7, 8, 9, 10] (fun r n f v W => At w q p N (j + 1) r n f v W)
      case first =>
        by_cases k1 : kd = 1
        · subst k1
          as_aux_lemma =>
            have hma := Hs.out.cp.make (IntKind.u64.wrap nn)
            rcases hma with hma | ⟨t, h, hma, f1, f2, f3, f4, ok, tn, tc, teq, tk⟩
            · have H := Lib.hid (cmake_is _ hma Hs.out.cel Hs.out.cp.ok (by omega))
              clear hma
              go_wp2_with fail
              refine H.out.mono ?_
              clear H
              rintro e w4 ⟨rfl, ha, hk⟩
              have h4 := Hs.out.turn ha hk (Hs.out.cp.mono (B' := 5 * j + 5) (by omega)) (by omega) (by omega)
              clear ha hk
              go_wp2_with fail
              go_meet
              case rel => exact h4.at_
            · have H := Lib.hid (cmake_is _ hma Hs.out.cel Hs.out.cp.ok (by omega))
              have Ok := Lib.hid ok
              have Teq := Lib.hid teq
              have Tk := Lib.hid tk
              clear hma ok teq tk f3 f4
              go_upto_region 16 with fail
              refine H.out.mono ?_
              clear H
              rintro e w4 ⟨rfl, ha, hk⟩
              have Hk := Lib.hid hk
              clear hk
              have hk := Hk.out
              clear Hk
              have d1' : w4.cell? ⟨z, 1, none⟩ = some (.int .i64 nn) := (hk.cell zlt zK.out).trans d1
              have Hk := Lib.hid hk
              have Zlt := Lib.hid (show z < w4.heap.size from Nat.lt_of_lt_of_le zlt hk.size)
              have D1 := Lib.hid (show w4.drew.cell? ⟨z, 1, none⟩ = some (.int .i64 nn) from d1')
              clear hk d1 d0
              by_cases hnn : nn = nu
              · subst hnn
                obtain ⟨u, e, hd, hp⟩ := Hs.out.cp.publish (by omega) f2 Ok.out tn Teq.out Tk.out
                have H2 := Lib.hid (publish_now (root := h) hd (Ok.out.fit (by omega)) (by omega) ha.drew)
                have Hp := Lib.hid hp
                clear hd hp ha
                go_upto_region 16 with fail
                go_region_held3 (fun w' => w'.cell? ⟨z, 1, none⟩ = some (.int .i64 nn)) (go_keep) (first | (go_at_call 28; refine H2.out.mono ?_; rintro e w5 ⟨rfl, ha5, hk5⟩; have c5 : w5.cell? ⟨z, 1, none⟩ = some (.int .i64 nn) := (hk5.cell Zlt.out zK.out).trans D1.out; have A5 := Lib.hid ha5; have K5 := Lib.hid hk5; clear ha5 hk5) | fail)
                all_goals
                  go_wp2_with fail
                  go_meet
                  case rel => exact (Hs.out.turn A5.out (Hk.out.trans ((Kept.refl _ _).drew.trans K5.out)) Hp.out (by omega) (by omega)).at_
              · have gn : (nn == nu) = false := by simpa using hnn
                obtain ⟨u, hd, hp⟩ := Hs.out.cp.late f1 f2 Ok.out tn tc Teq.out Tk.out
                have H2 := Lib.hid (publish_late (from_ := nn) (root := h) hnn (by omega) ha.drew)
                have H3 := Lib.hid (fun W (hc : Cel W K1 q p t r nu (fa + 1)) => ccount_is h tc hc (Ok.out.fit (by omega)))
                have H4 := Lib.hid (fun W (hc : Cel W K1 q p t r nu (fa + 1)) => cdrop_is h hd hc (Ok.out.fit (by omega)))
                have Hp := Lib.hid hp
                clear hd hp ha hnn
                go_upto_region 16 with fail
                go_region_held3 (fun w' => w'.cell? ⟨z, 1, none⟩ = some (.int .i64 nn)) (go_keep) (first | (go_at_call 28; refine H2.out.mono ?_; rintro e w5 ⟨rfl, ha5, hk5⟩; have c5 : w5.cell? ⟨z, 1, none⟩ = some (.int .i64 nn) := (hk5.cell Zlt.out zK.out).trans D1.out; have A5 := Lib.hid ha5; have K5 := Lib.hid hk5; clear ha5 hk5) | fail)
                all_goals
                  go_wp2_with fail
                  refine (H3.out _ A5.out).mono ?_
                  rintro e w' ⟨rfl, rfl⟩
                  go_wp2_with fail
                  refine (H4.out _ A5.out).mono ?_
                  rintro e w6 ⟨rfl, ha6, hk6⟩
                  have h4 := Hs.out.turn ha6 ((Hk.out.trans ((Kept.refl _ _).drew.trans K5.out)).trans hk6) Hp.out (by omega) (by omega)
                  clear ha6 hk6
                  go_wp2_with fail
                  go_meet
                  case rel => exact h4.at_
        have k1' : (kd == 1) = false := by simpa using k1
        by_cases k2 : kd = 2
        · subst k2
          as_aux_lemma =>
            clear k1 k1'
            by_cases r0 : r = 0
            · subst r0
              have H := Lib.hid (read_zero Hs.out.cel)
              go_wp2_with fail
              refine H.out.mono ?_
              clear H
              rintro e w4 ⟨rfl, ha, hb⟩
              have h4 := Hs.out.turn ha (Kept.of_below hb K1) (Hs.out.cp.mono (B' := 5 * j + 5) (by omega)) (by omega) (by omega)
              clear ha hb
              go_wp2_with fail
              go_meet
              case rel => exact h4.at_
            · obtain ⟨t, ek, hp⟩ := Hs.out.cp.read r0
              have H := Lib.hid (read_some r0 ek (Hs.out.cp.ok.fit (by omega)) Hs.out.cel)
              have r0' : (r == 0) = false := by simpa using r0
              have r0'' : (r != 0) = true := by simpa using r0
              have Hp := Lib.hid hp
              clear ek hp r0
              go_wp2_with fail
              refine H.out.mono ?_
              clear H
              rintro e w4 ⟨rfl, ha, hk⟩
              have Ha := Lib.hid ha
              have Hk := Lib.hid hk
              clear ha hk
              have M1 := Lib.hid (show Lst (w4.alloc (.cells #[.int .i64 r] 3)) w.heap.size Kl (.slice a L c') xs from (Hs.out.lst.kept (Hk.out.mono fun x _ hx => Hs.out.sub x hx)).kept ((Kept.refl Kl w4).alloc _))
              have M2 := Lib.hid (show ∀ b, Kl b → b < (w4.alloc (.cells #[.int .i64 r] 3)).heap.size from fun b hb => by have := Ha.out.ars.lt b (.inl (Hs.out.sub b hb)); simp; omega)
              have M3 := Lib.hid (show w.heap.size ≤ (w4.alloc (.cells #[.int .i64 r] 3)).heap.size by have := Hs.out.bel.size; have := Hk.out.size; simp; omega)
              have M4 := Lib.hid (show xs.length + 1 ≤ 1000000000 by rw [HL.out]; omega)
              go_wp2_with (at_builtin; refine wpList_append_lst M1.out M2.out M3.out M4.out rfl (.tmp 118) (.tmp 120) rfl rfl ⟨w4.heap.size, 0, none⟩ r 1 rfl (cell_new rfl rfl) ?_)
              intro v' w7 K2 hp
              have HP := Lib.hid hp
              clear hp
              go_wp2_with fail
              go_meet
              case rel => exact (Hs.out.push Ha.out Hk.out Hp.out (by omega) ((Below.refl _ _).alloc (Nat.le_refl _) _) HP.out).at_
        have k2' : (kd == 2) = false := by simpa using k2
        by_cases k3 : kd = 3
        · subst k3
          as_aux_lemma =>
            clear k1 k2 k1' k2'
            have H := Lib.hid (look_is Hs.out.cel)
            go_wp2_with fail
            refine H.out.mono ?_
            clear H
            rintro e w4 ⟨rfl, ha, hb⟩
            have h4 := (Hs.out.below hb).next
            clear ha hb
            go_wp2_with fail
            go_meet
            case rel => exact h4.at_
        have k3' : (kd == 3) = false := by simpa using k3
        by_cases k4 : kd = 4
        · subst k4
          as_aux_lemma =>
            clear k1 k2 k3 k1' k2' k3'
            by_cases hxs : L = 0
            · have hx0 : decide (0 < L) = false := decide_eq_false (by omega)
              have h4 := Hs.out.next
              go_wp2_with fail
              go_meet
              case rel => exact h4.at_
            · have hx0 : decide (0 < L) = true := decide_eq_true (by omega)
              obtain ⟨b1, b2, b3, b4⟩ := pick nn L (by omega)
              obtain ⟨g, cp, hsl, hcp, hKg, hcells⟩ := Hs.out.lst.at_ (i := 0) (by rw [HL.out]; omega)
              have hcg : a = some ⟨g, 0, none⟩ := by injection hsl
              subst hcg
              have hcp : L ≤ c' := by injection hsl with _ _ e; rw [e, ← HL.out]; exact hcp
              have hi : ∃ i : Nat, nn.tmod L % L = i := Int.eq_ofNat_of_zero_le b1
              obtain ⟨i, hi⟩ := hi
              have hiL : i < L := by omega
              have hc := hcells i (by rw [HL.out]; exact hiL)
              obtain ⟨t, hd, hp⟩ := Hs.out.cp.drop (i := i) (by rw [HL.out]; exact hiL)
              have H2 := Lib.hid (cdrop_is (xs.getD i 0) hd Hs.out.cel (Hs.out.cp.ok.fit (by omega)))
              have Hp := Lib.hid hp
              have Hc := Lib.hid hcells
              have HKg := Lib.hid (Hs.out.sub g hKg)
              have Hgl := Lib.hid (Hs.out.klt g (Hs.out.sub g hKg))
              clear hd hp hcells hsl hKg
              go_wp2_with fail
              refine H2.out.mono ?_
              rintro e w4 ⟨rfl, ha4, hk4⟩
              have A4 := Lib.hid ha4
              have K4 := Lib.hid hk4
              clear ha4 hk4
              go_upto_region 38 with fail
              clear hc d0 d1
              have gi1 : (0 : Int) ≤ (i : Int) := by omega
              have gi2 : (i : Int) ≤ (c' : Int) := by omega
              have gi3 : (i : Int) + 1 ≤ (L : Int) := by omega
              have gi4 : (L : Int) ≤ (c' : Int) := by omega
              have gi5 : (0 : Int) ≤ (i : Int) + 1 := by omega
              have gw : IntKind.i64.wrap ((i : Int) + 1) = (i : Int) + 1 := IntWalk.i64_in _ (by omega)
              have T1 := Lib.hid (show ∀ b : Nat, (fun _ : Nat => False) b → b < w4.drew.heap.size from fun b hb => hb.elim)
              have T2 := Lib.hid (show w.heap.size ≤ w4.drew.heap.size from Nat.le_trans Hs.out.bel.size K4.out.size)
              have T3 := Lib.hid (show (xs.take i).length = i by rw [List.length_take, HL.out]; omega)
              have T4 := Lib.hid (show ([] : List Int).length + i ≤ 1000000000 by simp; omega)
              have T5 := Lib.hid (show ∀ k, k < i → w4.drew.cell? ((⟨g, 0, none⟩ : Addr).add k) = some (.int .i64 ((xs.take i).getD k 0)) from fun k hk => by
                rw [Addr.add_lit, Nat.zero_add]
                refine ((K4.out.cell Hgl.out HKg.out).trans (Hc.out k (by rw [HL.out]; omega))).trans ?_
                simp [List.getD, hk])
              have T6 := Lib.hid (show (xs.drop (i + 1)).length = L - (i + 1) by rw [List.length_drop, HL.out])
              obtain ⟨ad2, hAd⟩ : ∃ ad2 : Addr, Hid (ad2 = if c' = i + 1 then ⟨g, 0, none⟩ else ⟨g, i + 1, none⟩) := ⟨_, rfl⟩
              have T7 := Lib.hid (show ∀ k, k < L - (i + 1) → ad2 = ⟨g, i + 1, none⟩ ∧ w4.drew.cell? ⟨g, i + 1 + k, none⟩ = some (.int .i64 ((xs.drop (i + 1)).getD k 0)) from fun k hk => by
                refine ⟨by rw [hAd.out, if_neg (by omega)], ((K4.out.cell Hgl.out HKg.out).trans (Hc.out (i + 1 + k) (by rw [HL.out]; omega))).trans ?_⟩
                simp [List.getD])
              have Hg4 := Lib.hid (show g < w4.drew.heap.size from Nat.lt_of_lt_of_le Hgl.out K4.out.size)
              go_region_held3 (fun w' => True) (trivial) ((first | (refine step_append_ints (xs := []) (ys := xs.take i) (K := fun _ => False) (B := w.heap.size) (v := .slice none 0 0) (Lst.nil _ _ _) T1.out T2.out rfl (.const (.slice none 0 0)) (.tmp 162) (by rfl) (by rfl) ⟨g, 0, none⟩ i c' (by rfl) T3.out T4.out T5.out ?_; intro v1 w5 Kx hp1) | (refine step_append_ints (xs := xs.take i) (ys := xs.drop (i + 1)) (B := w.heap.size) hp1.lst (fun b hb => (hp1.new b hb).1) (Nat.le_trans T2.out hp1.size) rfl (.tmp 163) (.tmp 167) (by rfl) (by rfl) ad2 (L - (i + 1)) (c' - (i + 1)) (by rw [hAd.out]; simp [Act.eval]; split <;> rfl) T6.out (by rw [T3.out]; omega) (fun k hk => by obtain ⟨h6, h7⟩ := T7.out k hk; rw [h6, Addr.add_lit]; exact (World.cell?_of_block (w := w4.drew) (hp1.same g Hg4.out fun e => e)).trans h7) ?_; intro v2 w6 Ky hp2)))
              go_wp2_with fail
              all_goals
                go_meet
                case rel => exact (Hs.out.less A4.out.drew K4.out.drew Hp.out (by rw [List.length_append, T3.out, T6.out, HL.out]; omega) hp1 hp2).at_
        have k4' : (kd == 4) = false := by simpa using k4
        by_cases k5 : kd = 5
        · subst k5
          as_aux_lemma =>
            clear k1 k2 k3 k4 k1' k2' k3' k4'
            have hwk := Hs.out.cp.work nn.toNat
            have wnn' : nn ≤ 9223372036854775807 := by exact (bounds_i64 wnn).2
            have H := Lib.hid (cwork_is nn rfl rfl Hs.out.cel Hs.out.cp.ok (by omega) wnn')
            have Hw := Lib.hid hwk
            clear hwk
            go_wp2_with fail
            refine H.out.mono ?_
            clear H
            rintro e w4 ⟨rfl, ha, hk⟩
            have h4 := Hs.out.turn ha hk Hw.out (by omega) (by omega)
            clear ha hk
            go_wp2_with fail
            go_meet
            case rel => exact h4.at_
        have k5' : (kd == 5) = false := by simpa using k5
        by_cases k6 : kd = 6
        · subst k6
          as_aux_lemma =>
            clear k1 k2 k3 k4 k5 k1' k2' k3' k4' k5'
            have Zlt := Lib.hid (show z < W1.heap.size from zlt)
            have D1 := Lib.hid (show W1.drew.cell? ⟨z, 1, none⟩ = some (.int .i64 nn) from d1)
            by_cases hnn : nn = nu
            · subst hnn
              obtain ⟨u, e, hd, hp⟩ := Hs.out.cp.none
              have H2 := Lib.hid (publish_now (root := 0) hd (Hs.out.cp.ok.fit (by omega)) (by omega) Hs.out.cel.drew)
              have Hp := Lib.hid hp
              clear hd hp
              go_upto_region 42 with fail
              go_region_held3 (fun w' => w'.cell? ⟨z, 1, none⟩ = some (.int .i64 nn)) (go_keep) (first | (go_at_call 28; refine H2.out.mono ?_; rintro e w5 ⟨rfl, ha5, hk5⟩; have c5 : w5.cell? ⟨z, 1, none⟩ = some (.int .i64 nn) := (hk5.cell Zlt.out zK.out).trans D1.out; have A5 := Lib.hid ha5; have K5 := Lib.hid hk5; clear ha5 hk5) | fail)
              all_goals
                go_wp2_with fail
                go_meet
                case rel => exact (Hs.out.turn A5.out ((Kept.refl _ _).drew.trans K5.out) Hp.out (by omega) (by omega)).at_
            · have gn : (nn == nu) = false := by simpa using hnn
              have H2 := Lib.hid (publish_late (from_ := nn) (root := 0) hnn (by omega) Hs.out.cel.drew)
              clear hnn
              go_upto_region 42 with fail
              go_region_held3 (fun w' => w'.cell? ⟨z, 1, none⟩ = some (.int .i64 nn)) (go_keep) (first | (go_at_call 28; refine H2.out.mono ?_; rintro e w5 ⟨rfl, ha5, hk5⟩; have c5 : w5.cell? ⟨z, 1, none⟩ = some (.int .i64 nn) := (hk5.cell Zlt.out zK.out).trans D1.out; have A5 := Lib.hid ha5; have K5 := Lib.hid hk5; clear ha5 hk5) | fail)
              all_goals
                go_wp2_with fail
                go_meet
                case rel => exact (Hs.out.turn A5.out ((Kept.refl _ _).drew.trans K5.out) (Hs.out.cp.mono (B' := 5 * j + 5) (by omega)) (by omega) (by omega)).at_
        have k6' : (kd == 6) = false := by simpa using k6
        as_aux_lemma =>
          have h4 := Hs.out.next
          clear k1 k2 k3 k4 k5 k6
          go_wp2_with fail
          go_meet
          case rel => exact h4.at_
      case rest =>
        as_aux_lemma =>
          clear Hs d0 d1 Hbx hlen HL hnum zlt zK
          obtain ⟨r, nu, fa, K, Kl, xs, s, rfl, rfl, rfl, hs⟩ := hcut
          obtain ⟨L, HL⟩ : ∃ L, Hid (xs.length = L) := ⟨_, rfl⟩
          have hsl := hs.lst.slice
          rw [HL.out] at hsl
          obtain ⟨a, c', rfl⟩ := hsl
          have hlen := hs.len
          rw [HL.out] at hlen
          have hnum := hs.num
          have hmm := @run_makeMap Try.prog
          obtain ⟨K2, hK2⟩ : ∃ K2 : Nat → Prop, K2 = fun x => K x ∨ x = wc.heap.size := ⟨_, rfl⟩
          have h0 : CS w q p N (j + 1) K2 Kl xs s r nu fa (.slice a L c') (wc.alloc (.map #[] 0)) := by rw [hK2]; exact hs.allocK _
          have h1 : IMap (wc.alloc (.map #[] 0)) wc.heap.size 0 (fun x => ((xs.take 0).count x : Int)) := (IMap.new wc).congr fun k _ => rfl
          have B2 := Lib.hid (show ¬ Kl wc.heap.size from fun e => by have := hs.klt _ (hs.sub _ e); omega)
          have B3 := Lib.hid (show w.heap.size ≤ wc.heap.size from hs.bel.size)
          have B4 := Lib.hid (show K2 wc.heap.size by rw [hK2]; exact .inr rfl)
          clear hs hK2
          have H0 := Lib.hid h0
          have H1 := Lib.hid h1
          clear h0 h1
          go_wp2_with fail
          generalize wc.heap.size = b2 at *
          generalize wc.alloc (.map #[] 0) = w4 at *
          clear hmm
          go_loopw [197] (fun i W => ∃ t : Nat, i = .int .i64 t ∧ t ≤ L ∧ CS w q p N (j + 1) K2 Kl xs s r nu fa (.slice a L c') W ∧ IMap W b2 t (fun x => ((xs.take t).count x : Int))) (fun i _ => L - (intOf i).toNat)
          case atStart => exact ⟨0, rfl, by omega, H0.out, H1.out⟩
          case round =>
            obtain ⟨t, rfl, t1, hs, hm⟩ := hrel
            have Hs := Lib.hid hs
            have Hm := Lib.hid hm
            clear hs hm H0 H1
            by_cases ht : t < L
            · obtain ⟨g, cp, hsl, hcp, hKg, hcells⟩ := Hs.out.lst.at_ (i := 0) (by rw [HL.out]; omega)
              have hcg : a = some ⟨g, 0, none⟩ := by injection hsl
              subst hcg
              have hcp : L ≤ c' := by injection hsl with _ _ e; rw [e, ← HL.out]; exact hcp
              have hc := hcells t (by rw [HL.out]; exact ht)
              have hyr := Lib.hid (Hs.out.cp.rng (xs.getD t 0) (by rw [List.getD_eq_getElem?_getD, List.getElem?_eq_getElem (by rw [HL.out]; exact ht)]; exact List.getElem_mem _))
              have htk : xs.take (t + 1) = xs.take t ++ [xs.getD t 0] := by
                rw [List.take_add_one, List.getElem?_eq_getElem (by rw [HL.out]; exact ht), List.getD_eq_getElem?_getD, List.getElem?_eq_getElem (by rw [HL.out]; exact ht)]
                rfl
              have Htk := Lib.hid htk
              clear hcells hsl htk
              generalize xs.getD t 0 = y at hc hyr Htk
              obtain ⟨cy, hcy⟩ : ∃ cy : Int, Hid (((xs.take t).count y : Int) = cy) := ⟨_, rfl⟩
              have hcl : 0 ≤ cy ∧ cy ≤ 100 := by rw [← hcy.out]; have := List.count_le_length (a := y) (l := xs.take t); have := List.length_take_le t xs; omega
              have wy : (Lit.int .i64 y).wf = true := WalkArith.wf_i64 (by have := hyr.out; omega)
              have hlk := Hm.out.look wy
              rw [hcy.out] at hlk
              go_wp2_with (at_mapUpdate; refine wpList_imap_put Hm.out (by omega) rfl _ _ _ rfl rfl _ _ rfl rfl wy ?wv ?_)
              case wv => exact WalkArith.wf_i64 (by omega)
              intro w5 hm5 hg5
              have M5 := Lib.hid (show IMap w5 b2 (t + 1) (fun x => ((xs.take (t + 1)).count x : Int)) from hm5.congr fun z _ => by
                unfold updI
                rw [Htk.out, count_snoc]
                by_cases e2 : z = y
                · subst e2; rw [if_pos rfl, if_pos rfl]; have := hcy.out; omega
                · rw [if_neg e2, if_neg fun h => e2 h.symm]; rfl)
              have C5 := Lib.hid (Hs.out.grown hg5 B4.out B2.out B3.out)
              clear hm5 hg5 hlk
              go_wp2_with fail
              go_roundw
              case rel => exact ⟨t + 1, by go_num, by omega, C5.out, M5.out⟩
              case measure => simp [intOf]; omega
            · obtain rfl : L = t := by omega
              have htl : xs.take L = xs := by rw [← HL.out, List.take_length]
              have hm := Hm.out
              rw [htl] at hm
              have Hm := Lib.hid hm
              clear hm htl
              obtain ⟨cy, hcy⟩ : ∃ cy : Int, Hid ((xs.count r : Int) = cy) := ⟨_, rfl⟩
              have hcl : 0 ≤ cy ∧ cy ≤ 100 := by rw [← hcy.out]; have := List.count_le_length (a := r) (l := xs); rw [HL.out] at this; omega
              have wy : (Lit.int .i64 r).wf = true := WalkArith.wf_i64 (by have := Hs.out.cp.root; omega)
              have hlk := Hm.out.look wy
              rw [hcy.out] at hlk
              go_wp2_with (at_mapUpdate; refine wpList_imap_put Hm.out (by omega) rfl _ _ _ rfl rfl _ _ rfl rfl wy ?wv ?_)
              case wv => exact WalkArith.wf_i64 (by omega)
              intro w5 hm5 hg5
              have M5 := Lib.hid (show IMap w5 b2 (L + 1) (fun x => (xs.count x : Int) + if r = x then 1 else 0) from hm5.congr fun z _ => by
                unfold updI
                by_cases e2 : z = r
                · subst e2; rw [if_pos rfl, if_pos rfl]; have := hcy.out; omega
                · rw [if_neg e2, if_neg fun h => e2 h.symm]; exact (Int.add_zero _).symm)
              have C5 := Lib.hid (Hs.out.grown hg5 B4.out B2.out B3.out)
              clear hm5 hg5 hlk
              go_wp2_with fail
              go_loopw [23] (fun h W => ∃ k : Nat, h = .int .i64 k ∧ 1 ≤ k ∧ k ≤ N + 1 ∧ CS w q p N (j + 1) K2 Kl xs s r nu fa (.slice a L c') W ∧ IMap W b2 (L + 1) (fun x => (xs.count x : Int) + if r = x then 1 else 0)) (fun h _ => N + 1 - (intOf h).toNat)
              case atStart => exact ⟨1, rfl, by omega, by omega, C5.out, M5.out⟩
              case round =>
                obtain ⟨k, rfl, k1, k2, hs, hm⟩ := hrel
                clear Hs Hm C5 M5
                have Hs := Lib.hid hs
                have Hm := Lib.hid hm
                clear hs hm
                by_cases hk : k ≤ N
                · obtain ⟨g, hg⟩ : ∃ g : Int, Hid ((xs.count (k : Int) : Int) + (if r = (k : Int) then 1 else 0) = g) := ⟨_, rfl⟩
                  have hc : s.count k = g := by rw [← hg.out]; exact Hs.out.cp.count k1 hk
                  have wk : (Lit.int .i64 (k : Int)).wf = true := WalkArith.wf_i64 (by omega)
                  have hl2 : ∀ q', (Instr.lookup 39 (.map (some b2)) (.int .i64 k) false).run Try.prog (wr.drewN q') = .ok (.int .i64 g) (wr.drewN q') := fun q' => by rw [← hg.out]; exact (Hm.out.drewN q').look wk
                  have H := fun q' => Lib.hid (count_is k hc (Hs.out.cel.ars.drewN q') (Hs.out.cp.ok.fit (by omega)))
                  clear hc
                  go_wp2_with fail
                  go_quiet ((go_at_call 24; exact quiet_is (H _).out))
                  clear hl2 H
                  go_wp2_with fail
                  go_roundw
                  case rel => exact ⟨k + 1, by go_num, by omega, by omega, Hs.out.drewN _, Hm.out.drewN _⟩
                  case measure => simp [intOf]; omega
                · obtain rfl : k = N + 1 := by omega
                  have H := Lib.hid (number_is Hs.out.cel)
                  have H2 := Lib.hid (fun W (hc : Cel W K2 q p s r nu fa) => fails_is hc)
                  go_wp2_with fail
                  refine H.out.mono ?_
                  clear H
                  rintro e w6 ⟨rfl, ha, hb⟩
                  have h4 := Hs.out.below hb
                  have H3 := Lib.hid (H2.out _ ha)
                  clear H2 ha hb
                  go_wp2_with fail
                  refine H3.out.mono ?_
                  rintro e w7 ⟨rfl, rfl⟩
                  clear H3
                  go_wp2_with fail
                  go_roundw
                  case rel => exact ⟨j + 1, by go_num, by omega, h4.at_⟩
                  case measure => simp [intOf]; omega
    · skip
      as_aux_lemma =>
        obtain ⟨r, nu, fa, K, Kl, xs, s, rfl, rfl, rfl, hs⟩ := hat
        have Hb := Lib.hid hs.bel
        clear hs
        go_wp2_with fail
        refine (read_nil _).mono ?_
        rintro e w' ⟨rfl, rfl⟩
        go_wp2_with fail
        refine (look_nil _).mono ?_
        rintro e w' ⟨rfl, rfl⟩
        go_wp2_with fail
        refine (number_nil _).mono ?_
        rintro e w' ⟨rfl, rfl⟩
        go_wp2_with fail
        refine (fails_nil _).mono ?_
        rintro e w' ⟨rfl, rfl⟩
        go_wp2_with fail
        refine (publish_nil _ _ _).mono ?_
        rintro e w' ⟨rfl, rfl⟩
        go_wp2_with fail
        go_ret
        exact ⟨rfl, Hb.out⟩

set_option maxRecDepth 100000 in
theorem lifted (os : Os) (started : os.Started) (H : Type) (enc : TypeId × Value → H) :
    ReturnsInHanded {} Try.checked os 9 .any (Rows.cellPlaysSpec.pre6 enc Try.prog Try.f9 Rows.cellPlaysRow.domain false) (Rows.cellPlaysSpec.post enc Try.prog Try.f9 false true false false) := by
  refine returnsInHanded_of_change (C := Try.checked) own_ started (by kernel_rfl) Try.func9
    (ChangeSpec.witness6 (enc := enc) (C := Try.checked) false ⟨#[], #[.int .i64 0, .slice none 0 0], []⟩ 8 (by kernel_rfl) (by kernel_rfl) (by kernel_rfl) (by kernel_rfl)) ?_
  intro W base args ds gs before hval0 hW _ _
  have hval : ∀ (j : Nat) t v, Try.f9.params[j]? = some t → args[j]? = some v → Value.okWide Try.prog W .any base t v := hval0
  have hW' := hW
  obtain ⟨p, q, hA0, hV, rfl, hfz, hnd⟩ := hW
  have hA : DataW.TrodAll enc Try.prog W 0 (fun _ => true) true Try.f9.params.toList args.toList ds p := hA0
  rw [Try.params9] at hA hval
  obtain ⟨v0, vs0, d0, ds0, p0, q0, hargs, rfl, rfl, h0, r0⟩ := trodAll_cons hA
  obtain ⟨v1, vs1, d1, ds1, p1, q1, rfl, rfl, rfl, h1, r1⟩ := trodAll_cons r0
  obtain ⟨rfl, rfl, rfl⟩ := trodAll_nil r1
  obtain rfl : args = #[v0, v1] := by cases args; simp_all
  obtain ⟨a0, rfl, rfl, rfl, w0⟩ := open_int Try.underlying3 (hval 0 3 v0 rfl rfl) h0
  obtain ⟨m1, x1, hx1⟩ := flat_arg (ks := opKs) (n := 5) Try.underlying51 (by kernel_rfl) (by kernel_rfl) (by decide) (hval 1 51 v1 rfl rfl) h1
  clear hA0 hval0
  refine (walk a0 w0 v1 m1 x1 W hx1).mono fun e W' ⟨he, hg⟩ => ?_
  subst he
  exact ⟨_, rfl, law_post laid_ (by kernel_rfl) rfl hW' hg rfl Try.underlying4 ⟨rfl, rfl, rfl⟩⟩

theorem over : Rows.cellPlaysRow.holds Try.pinned (OpenSpec.ofChange Rows.cellPlaysSpec) :=
  OpenClaim.holds_of_wide 9 Try.f9 rfl rfl rfl rfl rfl rfl rfl ⟨rfl, rfl, rfl, rfl, rfl⟩ rfl rfl rfl rfl rfl (by kernel_rfl) Try.func9 (by kernel_rfl)
    (of_decide_eq_true (by kernel_rfl)) (by unfold Func.isWrapper; first | (rw [if_pos (by decide +kernel)]; kernel_rfl) | (rw [if_neg (by decide +kernel)]; exact ⟨rfl, rfl⟩))
    (fun os started H enc _ => lifted os started H enc)

theorem proved : Rows.CellPlaysSaid :=
  over
#print axioms proved
end Go.Proofs.Ytajkhkgakafgkaa.cellPlays

