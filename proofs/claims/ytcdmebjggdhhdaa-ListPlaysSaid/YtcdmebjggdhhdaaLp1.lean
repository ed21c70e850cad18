/- ListPlays, a round: which list, what there is; the operation and what is behind it are statements of their own. -/
import Derived.Test.YtcdmebjggdhhdaaLp0
namespace Go.Proofs.Ytcdmebjggdhhdaa.listPlays
open Go.ChangeShapes Go.WideShapes Go.ChangeAt Go.RowKit
set_option linter.unusedVariables false
set_option maxRecDepth 100000 in
set_option maxHeartbeats 16000000 in
noncomputable def stage1 : PSigma fun T1 : Prop => (T1 → stage0.1) := by
  apply PSigma.mk
  focus
    intro ST1
    replace ST1 := Lib.hid ST1
    intro m row w HA vc hl h3 h3' N w0 _ h1 h2 w1 w2 p ha _ _ wr u4 u9 u10 u11 u12 u13 u14 u15 u16 u17 u18 u19 u20 u21 u22 u51 u52 u53 u54 u55 u56 u57 u58 u59 u60 u61 u62 u63 u64 u65 u66 u67 u68 u69 u70 u71 u72 u73 u74 u75 u76 u77 u78 u79 u80 u81 u82 u83 u84 u85 u86 u87 u88 u89 u90 u91 u92 u93 u94 u95 u96 u97 u98 u99 u100 u101 u102 u103 u104 u105 u106 u107 u108 u109 u110 u111 u112 u113 u114 u115 u116 u117 u118 u119 u120 u121 u122 u123 u124 u125 u126 u127 u128 u129 u130 u131 u132 u133 u134 u135 u136 u137 u138 u139 u140 u141 u142 u143 u144 u145 u146 u147 u148 u149 u150 u151 u152 u153 u154 u155 u156 u157 u158 u159 u160 u161 u162 u163 u164 u165 u166 u167 u168 u169 u170 u171 u172 u173 u174 u175 u176 u177 u178 u179 u180 u181 u182 u183 u184 u185 u186 u187 u188 u189 u190 u191 u192 u193 u194 u195 u196 u197 u198 u199 u200 u201 u202 u203 u204 u205 u206 u207 u208 u209 u210 u211 u212 u213 u214 u215 u216 u217 u218 u219 u220 u221 u222 u223 u224 u225 u226 u227 u228 u229 u230 u231 u232 u233 u234 u235 u236 u237 u238 u239 u240 u241 u242 u243 u244 u245 u246 u247 u248 u249 u250 u251 u252 u253 u254 u255 u256 u257 u258 u259 u260 u261 u262 u263 u264 u265 u266 u267 u268 u269 u270 u271 u272 u273 u274 u275 u276 u277 u278 u279 u280 u281 u282 u283 u284 u285 u286 u287 u288 u289 u290 u291 u292 u293 u294 u295 u296 u297 u298 u299 u300 u301 u302 u303 u304 u305 u306 u307 u308 u309 u310 u311 u312 u313 u314 u315 u316 u317 u318 u319 u320 u321 u322 u323 u324 u325 u326 u327 u328 u329 u330 u331 u332 u333 u334 u335 u336 u337 u338 u339 u340 u341 u342 u343 u344 u345 u346 u347 u348 u349 u350 u351 u352 u353 u354 u355 u356 u357 u358 u359 u360 u361 u362 u363 u364 u365 u366 u367 u368 u369 u370 u371 u372 u373 u374 u375 u376 u377 u378 u379 u380 u381 u382 u383 u384 u385 u386 u387 u388 u389 u390 u391 u392 u393 u394 u395 u396 u397 u398 u399 u400 u401 u402 u403 u404 u405 u406 u407 u408 u409 u410 u411 u412 u413 j j1 ba off hba K k1 k2 s R ws V q HL a1 c1 a2 c2 kd wkd rw wrw ii wii xa wxa xb wxb Hx hmc y0 y1 y2 y3 y4 Hlt Hs0 _ _ _ _ _ _
    have jm : m ≤ 100 := by simp at h3'; omega
    have hj := Hlt.out
    have hq1 : 1 ≤ q := by have := Hs0.out.pos; rw [HL.out] at this; exact this
    have hq2 : q ≤ j + 1 := by have := Hs0.out.le; rw [HL.out] at this; exact this
    obtain ⟨pk1, pk2, k, pk3, pk4⟩ := pickm rw (q : Int) (by omega) (by omega)
    have hkq : k < R.length := by rw [HL.out]; omega
    have Hkq := Lib.hid hkq
    have Hs := Lib.hid (Hs0.out.allocK (.cells #[.int .i64 kd, .int .i64 rw, .int .i64 ii, .int .i64 xa, .int .i64 xb] 41))
    obtain ⟨K1, hK1⟩ : ∃ K1 : Nat → Prop, (fun x => K x ∨ x = wr.heap.size) = K1 := ⟨_, rfl⟩
    rw [hK1] at Hs
    have zK : Hid (K1 wr.heap.size) := by rw [← hK1]; exact .inr rfl
    clear hK1
    have zn1 : Hid (¬ k1 wr.heap.size) := fun e => by have := Hs0.out.klt _ (Hs0.out.sub1 _ e); omega
    have zn2 : Hid (¬ k2 wr.heap.size) := fun e => by have := Hs0.out.klt _ (Hs0.out.sub2 _ e); omega
    have hbx := heap_alloc_new wr (.cells #[.int .i64 kd, .int .i64 rw, .int .i64 ii, .int .i64 xa, .int .i64 xb] 41)
    generalize wr.alloc (.cells #[.int .i64 kd, .int .i64 rw, .int .i64 ii, .int .i64 xa, .int .i64 xb] 41) = W1 at *
    generalize wr.heap.size = z at *
    have d0 : W1.cell? ⟨z, 0, none⟩ = some (.int .i64 kd) := cell_of_row _ _ _ _ _ _ hbx
    have d1 : W1.cell? ⟨z, 1, none⟩ = some (.int .i64 rw) := cell_of_row _ _ _ _ _ _ hbx
    have d2 : W1.cell? ⟨z, 2, none⟩ = some (.int .i64 ii) := cell_of_row _ _ _ _ _ _ hbx
    have d3 : W1.cell? ⟨z, 3, none⟩ = some (.int .i64 xa) := cell_of_row _ _ _ _ _ _ hbx
    have d4 : W1.cell? ⟨z, 4, none⟩ = some (.int .i64 xb) := cell_of_row _ _ _ _ _ _ hbx
    have zlt : z < W1.heap.size := lt_heap hbx
    obtain ⟨g1, cp1, hsl1, hcp1, hKg1, hcl1⟩ := Hs.out.ids.at_ (i := k) hkq
    obtain ⟨g2, cp2, hsl2, hcp2, hKg2, hlg2, hcl2⟩ := Hs.out.want.at_ Hs.out.pos
    have hga1 : a1 = some ⟨g1, 0, none⟩ := by injection hsl1
    have hga2 : a2 = some ⟨g2, 0, none⟩ := by injection hsl2
    have hc1 : c1 = cp1 := by injection hsl1
    have hc2 : c2 = cp2 := by injection hsl2
    rw [HL.out] at hcp1 hcp2
    subst hga1 hga2 hc1 hc2
    obtain ⟨aw, cw, hvw⟩ := (Hs.out.items k hkq).items.val
    have r1 : W1.cell? ⟨g1, k, none⟩ = some (.int .i64 (R.getD k 0)) := hcl1 k hkq
    have r2 : W1.cell? ⟨g2, k, none⟩ = some (V.getD k undef) := hcl2 k _ (by rw [List.getD_eq_getElem?_getD, List.getElem?_eq_getElem (by rw [Hs.out.lenV]; exact hkq)]; rfl)
    obtain ⟨wl, hwl⟩ : ∃ wl, (ws.getD k []).length = wl := ⟨_, rfl⟩
    have wl1 : wl ≤ j := by rw [← hwl]; exact (Hs.out.rg k hkq).2
    rw [hvw, hwl] at r2
    obtain ⟨h, hh⟩ : ∃ h, R.getD k 0 = h := ⟨_, rfl⟩
    rw [hh] at r1
    have HVW := Lib.hid hvw
    have HWL := Lib.hid hwl
    have HH := Lib.hid hh
    have HC1 := Lib.hid hcp1
    have HC2 := Lib.hid hcp2
    have kI : (k : Int) < (q : Int) := by omega
    have qI : (q : Int) ≤ 101 := by omega
    have wlI : (wl : Int) ≤ 100 := by omega
    clear hvw hwl hh hsl1 hsl2 hcl1 hcl2 hcp1 hcp2 hKg1 hKg2 hlg2 hbx hkq hj y0 y1 y2 y3 y4
    go_wp2_with fail
    go_quiet (fail)
    have hB : Below W1.heap.size W1 (W1.drewN nq) := ⟨rfl, rfl, rfl, Nat.le_refl _, fun _ _ => rfl⟩
    replace Hs := Lib.hid (Hs.out.below hB)
    replace d0 : (W1.drewN nq).cell? ⟨z, 0, none⟩ = some (.int .i64 kd) := d0
    replace d1 : (W1.drewN nq).cell? ⟨z, 1, none⟩ = some (.int .i64 rw) := d1
    replace d2 : (W1.drewN nq).cell? ⟨z, 2, none⟩ = some (.int .i64 ii) := d2
    replace d3 : (W1.drewN nq).cell? ⟨z, 3, none⟩ = some (.int .i64 xa) := d3
    replace d4 : (W1.drewN nq).cell? ⟨z, 4, none⟩ = some (.int .i64 xb) := d4
    replace zlt : z < (W1.drewN nq).heap.size := zlt
    clear hB r1 r2
    generalize W1.drewN nq = W2 at *
    obtain ⟨ub, hub⟩ : ∃ ub : Nat, s.busy = (ub : Int) := Int.eq_ofNat_of_zero_le Hs.out.gd.busy_le.1
    have ubI : (ub : Int) ≤ 500 := by have := Hs.out.gd.busy_le.2; have := Hs.out.n; omega
    obtain ⟨pc, hpc⟩ : ∃ pc : Int, (s.wt.length : Int) = pc := ⟨_, rfl⟩
    have pc0 : 0 ≤ pc := by omega
    have sn := Hs.out.good (by omega)
    have pcI : pc ≤ 6000 := by have := (snd_fit sn).l; omega
    obtain ⟨mm, hmm⟩ : ∃ mm : Int, s.made = mm := ⟨_, rfl⟩
    have mm1 : mm ≤ 100000 := by have := Hs.out.mb; have := Hs.out.gd.busy_le; have := Hs.out.n; omega
    have mm0 : 0 ≤ mm := by exact hmm ▸ sn.m.1
    have HU := Lib.hid (used_is hub Hs.out.ars)
    have HPn := Lib.hid (pending_is hpc Hs.out.ars)
    have HMd := Lib.hid (made_is hmm Hs.out.ars)
    have Hpc := Lib.hid hpc
    have Hub := Lib.hid hub
    have Hmm := Lib.hid hmm
    clear hub hpc hmm sn
    go_wp2_with fail
    refine HU.out.mono ?_
    rintro e w4 ⟨rfl, rfl⟩
    go_wp2_with fail
    refine HPn.out.mono ?_
    rintro e w4 ⟨rfl, rfl⟩
    go_wp2_with fail
    refine HMd.out.mono ?_
    rintro e w4 ⟨rfl, rfl⟩
    clear HU HPn HMd
    go_upto_region 16 with fail
    go_cut [19] (fun b W => b = .bool (decide (0 ≤ ii ∧ ii < (wl : Int))) ∧ W = W2)
    case first =>
      clear ST1
      by_cases b0 : ii < 0
      · have hb : decide (0 ≤ ii ∧ ii < (wl : Int)) = false := by simp; omega
        have HB := Lib.hid hb
        clear hb
        go_wp2_with fail
        go_meet
        case rel => exact ⟨by rw [HB.out], rfl⟩
      · have b1 : 0 ≤ ii := by omega
        by_cases b2 : ii < (wl : Int)
        · have hb : decide (0 ≤ ii ∧ ii < (wl : Int)) = true := by simp; omega
          have HB := Lib.hid hb
          clear hb
          go_wp2_with fail
          go_meet
          case rel => exact ⟨by rw [HB.out], rfl⟩
        · have hb : decide (0 ≤ ii ∧ ii < (wl : Int)) = false := by simp; omega
          have HB := Lib.hid hb
          clear hb
          go_wp2_with fail
          go_meet
          case rel => exact ⟨by rw [HB.out], rfl⟩
    case rest =>
      obtain ⟨rfl, rfl⟩ := hcut
      obtain ⟨bi, hbi⟩ : ∃ bi, decide (0 ≤ ii ∧ ii < (wl : Int)) = bi := ⟨_, rfl⟩
      rw [hbi]
      have HBi := Lib.hid hbi
      clear hbi
      repeat (first | exact ST1.out | revert ‹_›)
end Go.Proofs.Ytcdmebjggdhhdaa.listPlays
