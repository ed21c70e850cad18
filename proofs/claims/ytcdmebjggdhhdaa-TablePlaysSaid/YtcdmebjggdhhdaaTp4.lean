/- TablePlays: Cut. -/
import Derived.Test.YtcdmebjggdhhdaaTp2
namespace Go.Proofs.Ytcdmebjggdhhdaa.tablePlays
open Go.ChangeShapes Go.WideShapes Go.ChangeAt Go.RowKit
set_option linter.unusedVariables false
set_option maxRecDepth 100000 in
set_option maxHeartbeats 16000000 in
theorem cut_is : stage1.2.2.1 := by
  intro m row w HA vc hl h3 h3' N w0 _ h1 h2 w1 w2 p ha _ _ wr u4 u10 u11 u12 u13 u14 u15 u16 u17 u18 u19 u20 u21 u22 u23 u24 u25 u26 u28 u52 u53 u54 u55 u56 u57 u58 u59 u60 u61 u62 u63 u64 u65 u66 u67 u68 u69 u70 u71 u72 u73 u74 u75 u76 u77 u78 u79 u80 u81 u82 u83 u84 u85 u86 u87 u88 u89 u90 u91 u92 u93 u94 u95 u96 u97 u98 u99 u100 u101 u102 u103 u104 u105 u106 u107 u108 u109 u110 u111 u112 u113 u114 u115 u116 u117 u118 u119 u120 u121 u122 u123 u124 u125 u126 u127 u128 u129 u130 u131 u132 u133 u134 u135 u136 u137 u138 u139 u140 u141 u142 u143 u144 u145 u146 u147 u148 u149 u150 u151 u152 u153 u154 u155 u156 u157 u158 u159 u160 u161 u162 u163 u164 u165 u166 u167 u168 u169 u170 u171 u172 u173 u174 u175 u176 u177 u178 u179 u180 u181 u182 u183 u184 u185 u186 u187 u188 u189 u190 u191 u192 u193 u194 u195 u196 u197 u198 u199 u200 u201 u202 u203 u204 u205 u206 u207 u208 u209 u210 u211 u212 u213 u214 u215 u216 u217 u218 u219 u220 u221 u222 u223 u224 u225 u226 u227 u228 u229 u230 u231 u232 u233 u234 u235 u236 u237 u238 u239 u240 u241 u242 u243 u244 u245 u246 u247 u248 u249 u250 u251 u252 u253 u254 u255 u256 u257 u258 u259 u260 u261 u262 u263 u264 u265 u266 u267 u268 u269 u270 u271 u272 u273 u274 u275 u276 u277 u278 u279 u280 u281 u282 u283 u284 u285 u286 u287 u288 u289 u290 u291 u292 u293 u294 u295 u296 u297 u298 u299 u300 u301 u302 u303 u304 u305 u306 u307 u308 u309 u310 u311 u312 u313 u314 u315 u316 u317 u318 u319 u320 u321 u322 u323 u324 u325 u326 u327 u328 u329 u330 u331 j j1 hlt ba off hba h K k1 k2 s l L HL a1 c1 a2 c2 id wid nn wnn Hx hmc K1 k bb Hp hL10 Hlt xs HPl HPb Hxl _ _ _ z zK _ wr u12 u13 u58 u59 u60 u61 u62 u63 u64 u65 u66 u67 Hs Hids zlt pu b1 hu Hpu b2 HP0 hul Hpl ub ubI pc pc0 pcI Hpc Hub _ _ _ _ _ _ G wkd Hbx _ _ _ q1' v5 w5 kA v6 w6 kB F6 N6 K6 T6 K1K KA KB zK6 zlt6 f0 f1 f2 _ _ _ _ _ _
  cases bb
  · have hpu : pu = -1 := Hpl.out.symm
    have hk0 : k = 0 := by rcases Hp.out with ⟨e, _⟩ | ⟨_, e, _⟩; exact absurd e (by decide); exact e
    subst hpu hk0
    have H := Lib.hid (cut_none Hp.out G.out (by decide) T6.out.lh (.inr (.inl List.mem_cons_self)) T6.out.docs T6.out.ars)
    go_wp2_with fail
    refine H.out.mono ?_
    rintro e w7 ⟨rfl, hb⟩
    have T7 := Lib.hid (T6.out.below hb)
    clear hb H f0 f1 f2
    go_wp2_with fail
    go_meet
    case rel => exact .inl ⟨_, _, by decide, by decide, rfl, rfl, rfl, T7.out⟩
  · have hpu : pu = (k : Int) := Hpl.out.symm
    subst hpu
    have HM := Lib.hid (tcut_gen Hp.out T6.out.gd (by simp) (by have := T6.out.mb; have := Hlt.out; omega) T6.out.lh (.inl List.mem_cons_self) T6.out.docs T6.out.ars)
    go_wp2_with fail
    refine HM.out.mono ?_
    rintro e w7 ⟨q, s1, e1, rfl, ha, hk, R⟩
    have zlt7 : z < w7.heap.size := Nat.lt_of_lt_of_le zlt6 hk.size
    have g1 : w7.cell? ⟨z, 1, none⟩ = some (.int .i64 id) := (hk.cell (o := 1) zlt6 zK6.out).trans f1
    have g2 : w7.cell? ⟨z, 2, none⟩ = some (.int .i64 nn) := (hk.cell (o := 2) zlt6 zK6.out).trans f2
    have A7 := Lib.hid ha
    have HK7 := Lib.hid hk
    have R7 := Lib.hid R
    clear ha hk R HM f0 f1 f2
    go_upto_region 35 with fail
    have hkL : k < L := by have := (Hp.out.pos rfl).1; rw [HL.out] at this; exact this
    have kI : (k : Int) < (L : Int) := by omega
    have LI : (L : Int) ≤ 10 := by omega
    obtain ⟨ga, cp1, hsl1, hcp1, hKg1, hcl1⟩ := Hs.out.ids.at_ (i := k) (by rw [List.length_map, HL.out]; exact hkL)
    obtain ⟨gb, cp2, hsl2, hcp2, hKg2, hcl2⟩ := Hs.out.lens.at_ (i := k) (by rw [List.length_map, HL.out]; exact hkL)
    rw [List.length_map, HL.out] at hcp1 hcp2
    have hga1 : a1 = some ⟨ga, 0, none⟩ := by injection hsl1
    have hga2 : a2 = some ⟨gb, 0, none⟩ := by injection hsl2
    have hc1 : c1 = cp1 := by injection hsl1
    have hc2 : c2 = cp2 := by injection hsl2
    subst hga1 hga2 hc1 hc2
    have B7 := (Below.refl w7.heap.size w7).drew
    have A7d := Lib.hid (A7.out.below B7)
    have K7d := Lib.hid (HK7.out.trans (Kept.of_below B7 K6))
    have L1 := Lib.hid (Lst.kept T6.out.ids (K7d.out.mono fun x _ hx => T6.out.sub1 x hx))
    have L2 := Lib.hid (Lst.kept T6.out.lens (K7d.out.mono fun x _ hx => T6.out.sub2 x hx))
    have P0 := Lib.hid (pair_refl (w0 := w7.drew) (B := w.heap.size) (k1 := fun _ => False) (k2 := fun _ => False) (fun b hb => hb.elim) (fun b hb => hb.elim) (fun b hb => hb.elim))
    have W0 := Lib.hid (show w.heap.size ≤ w7.drew.heap.size from (T6.out.bel.trans ((HK7.out.mono fun x _ hx => T6.out.kK x hx).below_of T6.out.bel.size)).size)
    have X1 := Lib.hid (show (l.map Prod.fst).length = L by rw [List.length_map]; exact HL.out)
    have X2 := Lib.hid (show (l.map Prod.snd).length = L by rw [List.length_map]; exact HL.out)
    have HS1 := fun W (hW : ∃ k' k'', Pair2 w7.drew w.heap.size (fun _ => False) (fun _ => False) k' k'' W) => Lib.hid (show Lst W w.heap.size k1 (.slice (some ⟨ga, 0, none⟩) L c1) (l.map Prod.fst) by obtain ⟨k', k'', hP⟩ := hW; exact Lst.same L1.out fun b hb _ => (pair_old hP).block b hb)
    have HS2 := fun W (hW : ∃ k' k'', Pair2 w7.drew w.heap.size (fun _ => False) (fun _ => False) k' k'' W) => Lib.hid (show Lst W w.heap.size k2 (.slice (some ⟨gb, 0, none⟩) L c2) (l.map Prod.snd) by obtain ⟨k', k'', hP⟩ := hW; exact Lst.same L2.out fun b hb _ => (pair_old hP).block b hb)
    have hcL1 : L ≤ c1 := hcp1
    have hcL2 : L ≤ c2 := hcp2
    have HP' := Lib.hid hkL
    obtain ⟨ob, hob⟩ : ∃ o : Option Addr, (if c2 = k + 1 then some ⟨gb, 0, none⟩ else some ⟨gb, k + 1, none⟩) = o := ⟨_, rfl⟩
    have Hob := Lib.hid hob
    clear hob
    obtain ⟨oa, hoa⟩ : ∃ o : Option Addr, (if c1 = k + 1 then some ⟨ga, 0, none⟩ else some ⟨ga, k + 1, none⟩) = o := ⟨_, rfl⟩
    have Hoa := Lib.hid hoa
    clear hoa
    have hw1 : IntKind.i64.wrap ((k : Int) + 1) = (k : Int) + 1 := IntWalk.i64_in _ (by omega)
    have hk1 : ¬ c1 < k := by omega
    have hk2 : ¬ c2 < k := by omega
    have hk3 : (0 : Int) ≤ (k : Int) + 1 := by omega
    have hk4 : (k : Int) + 1 ≤ (L : Int) := by omega
    clear B7 A7 HK7 L1 L2 hsl1 hsl2 hcl1 hcl2 hcp1 hcp2 hKg1 hKg2
    refine wp_region_noPanic ?_
    refine wp_region_held_drew (S := fun W => ∃ k' k'', Pair2 w7.drew w.heap.size (fun _ => False) (fun _ => False) k' k'' W) (by kernel_rfl) ⟨_, _, P0.out⟩ (fun hHeld => ?_)
    refine takeS (i := 0) (d := some 137) (v := (.slice (some ⟨ga, 0, none⟩) L c1)) rfl rfl (by kernel_rfl) (by kernel_rfl) (by kernel_rfl) (fun _ _ _ h => h) (by rfl) (fun W hW => by rfl) hHeld ?_
    try simp only [Act.put, List.setIfInBounds_toArray, List.set_cons_zero, List.set_cons_succ]
    refine takeS (i := 1) (d := some 138) (v := (.int .i64 (k : Int))) rfl rfl (by kernel_rfl) (by kernel_rfl) (by kernel_rfl) (fun _ _ _ h => h) (by rfl) (fun W hW => by rfl) hHeld ?_
    try simp only [Act.put, List.setIfInBounds_toArray, List.set_cons_zero, List.set_cons_succ]
    refine takeS (i := 2) (d := some 139) (v := (.slice (some ⟨ga, 0, none⟩) k c1)) rfl rfl (by kernel_rfl) (by kernel_rfl) (by kernel_rfl) (fun _ _ _ h => h) (by rfl) (fun W hW => by go_simp) hHeld ?_
    try simp only [Act.put, List.setIfInBounds_toArray, List.set_cons_zero, List.set_cons_succ]
    refine takeS (i := 4) (d := some 141) (v := (.slice (some ⟨ga, 0, none⟩) L c1)) rfl rfl (by kernel_rfl) (by kernel_rfl) (by kernel_rfl) (fun _ _ _ h => h) (by rfl) (fun W hW => by rfl) hHeld ?_
    try simp only [Act.put, List.setIfInBounds_toArray, List.set_cons_zero, List.set_cons_succ]
    refine takeS (i := 5) (d := some 142) (v := (.int .i64 (k : Int))) rfl rfl (by kernel_rfl) (by kernel_rfl) (by kernel_rfl) (fun _ _ _ h => h) (by rfl) (fun W hW => by rfl) hHeld ?_
    try simp only [Act.put, List.setIfInBounds_toArray, List.set_cons_zero, List.set_cons_succ]
    refine takeS (i := 6) (d := some 143) (v := (.int .i64 ((k : Int) + 1))) rfl rfl (by kernel_rfl) (by kernel_rfl) (by kernel_rfl) (fun _ _ _ h => h) (by rfl) (fun W hW => by go_simp) hHeld ?_
    try simp only [Act.put, List.setIfInBounds_toArray, List.set_cons_zero, List.set_cons_succ]
    refine takeS (i := 7) (d := some 144) (v := (.slice oa (L - (k + 1)) (c1 - (k + 1)))) rfl rfl (by kernel_rfl) (by kernel_rfl) (by kernel_rfl) (fun _ _ _ h => h) (by rfl) (fun W hW => by have q0 := Hoa.out; go_simp) hHeld ?_
    try simp only [Act.put, List.setIfInBounds_toArray, List.set_cons_zero, List.set_cons_succ]
    refine takeS (i := 9) (d := some 146) (v := (.slice (some ⟨gb, 0, none⟩) L c2)) rfl rfl (by kernel_rfl) (by kernel_rfl) (by kernel_rfl) (fun _ _ _ h => h) (by rfl) (fun W hW => by rfl) hHeld ?_
    try simp only [Act.put, List.setIfInBounds_toArray, List.set_cons_zero, List.set_cons_succ]
    refine takeS (i := 10) (d := some 147) (v := (.int .i64 (k : Int))) rfl rfl (by kernel_rfl) (by kernel_rfl) (by kernel_rfl) (fun _ _ _ h => h) (by rfl) (fun W hW => by rfl) hHeld ?_
    try simp only [Act.put, List.setIfInBounds_toArray, List.set_cons_zero, List.set_cons_succ]
    refine takeS (i := 11) (d := some 148) (v := (.slice (some ⟨gb, 0, none⟩) k c2)) rfl rfl (by kernel_rfl) (by kernel_rfl) (by kernel_rfl) (fun _ _ _ h => h) (by rfl) (fun W hW => by go_simp) hHeld ?_
    try simp only [Act.put, List.setIfInBounds_toArray, List.set_cons_zero, List.set_cons_succ]
    refine takeS (i := 13) (d := some 150) (v := (.slice (some ⟨gb, 0, none⟩) L c2)) rfl rfl (by kernel_rfl) (by kernel_rfl) (by kernel_rfl) (fun _ _ _ h => h) (by rfl) (fun W hW => by rfl) hHeld ?_
    try simp only [Act.put, List.setIfInBounds_toArray, List.set_cons_zero, List.set_cons_succ]
    refine takeS (i := 14) (d := some 151) (v := (.int .i64 (k : Int))) rfl rfl (by kernel_rfl) (by kernel_rfl) (by kernel_rfl) (fun _ _ _ h => h) (by rfl) (fun W hW => by rfl) hHeld ?_
    try simp only [Act.put, List.setIfInBounds_toArray, List.set_cons_zero, List.set_cons_succ]
    refine takeS (i := 15) (d := some 152) (v := (.int .i64 ((k : Int) + 1))) rfl rfl (by kernel_rfl) (by kernel_rfl) (by kernel_rfl) (fun _ _ _ h => h) (by rfl) (fun W hW => by go_simp) hHeld ?_
    try simp only [Act.put, List.setIfInBounds_toArray, List.set_cons_zero, List.set_cons_succ]
    refine takeS (i := 16) (d := some 153) (v := (.slice ob (L - (k + 1)) (c2 - (k + 1)))) rfl rfl (by kernel_rfl) (by kernel_rfl) (by kernel_rfl) (fun _ _ _ h => h) (by rfl) (fun W hW => by have q0 := Hob.out; go_simp) hHeld ?_
    try simp only [Act.put, List.setIfInBounds_toArray, List.set_cons_zero, List.set_cons_succ]
    refine chains (w0 := w7.drew) (B := w.heap.size) (j1 := fun _ => False) (j2 := fun _ => False) (d1 := 140) (d2 := 145) (d3 := 149) (d4 := 154) (i1 := 3) (i2 := 8) (i3 := 12) (i4 := 17)  (m := 2) (L := fun b1 b2 b3 b4 => #[true, true, true, b1, true, true, true, true, b2, true, true, true, b3, true, true, true, true, b4, false, false]) (R := fun b1 b2 b3 b4 => (if b1 then [] else [3]) ++ (if b1 && !b2 then [8] else []) ++ (if b2 && !b3 then [12] else []) ++ (if b3 && !b4 then [17] else []) ++ (if b1 && b2 && b3 && b4 then [18] else [])) (P1 := Join w.heap.size ((l.map Prod.fst).take k) ((l.map Prod.fst).drop (k + 1))) (P2 := Join w.heap.size ((l.map Prod.snd).take k) ((l.map Prod.snd).drop (k + 1)))
      W0.out (fun k' k'' W h => ⟨k', k'', h⟩) (by decide) (by decide) (by decide) (by decide) (by decide) (by decide) (show 140 < 345 by decide) (show 149 < 345 by decide) ?hr ?hR (fun _ _ _ => rfl) (fun _ _ _ => rfl) (fun _ _ _ => rfl) (fun _ _ _ => rfl) Join.same Join.same ?h1 ?h2 ?h3 ?h4 ?hfin trivial trivial (fun b hb => hb.elim) (fun b hb => hb.elim) (fun b hb => hb.elim)
    case hr =>
      intro b1 b2 b3 b4 h21 h43
      cases b1 <;> cases b2 <;> cases b3 <;> cases b4 <;> first | exact absurd (h21 rfl) (by decide) | exact absurd (h43 rfl) (by decide) | kernel_rfl
    case hR =>
      intro b1 b2 b3 b4 h21 h43 h
      cases b1 <;> cases b2 <;> cases b3 <;> cases b4 <;> first | exact absurd (h21 rfl) (by decide) | exact absurd (h43 rfl) (by decide) | exact absurd h (by decide) | (refine ⟨by decide, fun i hi => ?_⟩; simp at hi ⊢; omega)
    case h1 =>
      intro a W k' K ha hS hB hlt hp hK
      have q := (ha 139 (by decide) (by decide) (by decide) (by decide)).trans (show _ = Value.slice (some ⟨ga, 0, none⟩) k c1 from rfl)
      refine wpOp_of rfl (by rfl) ?_
      exact wp_append_any (xs := []) (Lst.nil _ _ _) hlt hB (part_one (HS1 W hS).out X1.out HP'.out _ (by omega)) (by have := HP'.out; simp; omega) (.const (.slice none 0 0)) (.tmp 139) rfl rfl q (fun v' w' K' hp => hK v' w' K' (by have := hp.lst; exact this) hp.grew)
    case h2 =>
      intro a W k' v K ha hv hS hB hlt hp hK
      have q := (ha 144 (by decide) (by decide) (by decide) (by decide)).trans (show _ = Value.slice oa (L - (k + 1)) (c1 - (k + 1)) from rfl)
      refine wpOp_of rfl (by rfl) ?_
      exact wp_append_any hp hlt hB (by rw [← Hoa.out]; exact part_two (HS1 W hS).out X1.out HP'.out (by omega)) (by have := HP'.out; have := HL.out; simp; omega) (.tmp 140) (.tmp 144) rfl hv q (fun v' w' K' hp => hK v' w' K' hp.lst hp.grew)
    case h3 =>
      intro a W k' K ha hS hB hlt hp hK
      have q := (ha 148 (by decide) (by decide) (by decide) (by decide)).trans (show _ = Value.slice (some ⟨gb, 0, none⟩) k c2 from rfl)
      refine wpOp_of rfl (by rfl) ?_
      exact wp_append_any (xs := []) (Lst.nil _ _ _) hlt hB (part_one (HS2 W hS).out X2.out HP'.out _ (by omega)) (by have := HP'.out; simp; omega) (.const (.slice none 0 0)) (.tmp 148) rfl rfl q (fun v' w' K' hp => hK v' w' K' (by have := hp.lst; exact this) hp.grew)
    case h4 =>
      intro a W k' v K ha hv hS hB hlt hp hK
      have q := (ha 153 (by decide) (by decide) (by decide) (by decide)).trans (show _ = Value.slice ob (L - (k + 1)) (c2 - (k + 1)) from rfl)
      refine wpOp_of rfl (by rfl) ?_
      exact wp_append_any hp hlt hB (by rw [← Hob.out]; exact part_two (HS2 W hS).out X2.out HP'.out (by omega)) (by have := HP'.out; have := HL.out; simp; omega) (.tmp 149) (.tmp 153) rfl hv q (fun v' w' K' hp => hK v' w' K' hp.lst hp.grew)
    case hfin =>
      intro r1 r2 r3 r4 m1 m2 W p1 p2 hP
      have PP := Lib.hid hP
      have PA := Lib.hid p1
      have PB := Lib.hid p2
      clear hP p1 p2
      try simp only [Act.put, List.setIfInBounds_toArray, List.set_cons_zero, List.set_cons_succ]
      refine wpAnyH_ready (rs := [18]) (by kernel_rfl) (by simp) ?_
      refine AllReadyH.cons rfl (fun K hK => ?_) AllReadyH.nil
      go_simp
      refine hK.out _ _ ⟨_, _, PP.out⟩ (fun _ => ?_)
      clear hK K
      try simp only [List.setIfInBounds_toArray, List.set_cons_zero, List.set_cons_succ]
      refine wpAnyH_ready (rs := [19]) (by kernel_rfl) (by simp) ?_
      refine AllReadyH.cons rfl (fun K hK => ?_) AllReadyH.nil
      go_simp
      refine hK.out _ _ ⟨_, _, PP.out⟩ (fun _ => ?_)
      clear hK K
      try simp only [List.setIfInBounds_toArray, List.set_cons_zero, List.set_cons_succ]
      refine wpAnyH_done (by kernel_rfl) ?_ _
      refine NoPanic.normal ?_
      go_wp2_with fail
      go_meet
      case rel => exact .inr ⟨_, _, _, _, _, _, _, rfl, rfl, rfl, Chg.grown T6.out A7d.out K7d.out R7.out (fun x hx => by rcases hx with hx | hx <;> exact hx.elim) PP.out (by rw [del_fst]; exact PA.out) (by rw [del_snd]; exact PB.out) (docs_del T6.out.docs k) (by have := delL_len (l := l) (k := k) (by rw [HL.out]; exact HP'.out); have := T6.out.ten; omega) (nodup_del T6.out.nd k)⟩
end Go.Proofs.Ytcdmebjggdhhdaa.tablePlays
