/- ListPlays, a round: behind the operation one of the lists is as it should be. -/
import Derived.Test.YtcdmebjggdhhdaaLp2
namespace Go.Proofs.Ytcdmebjggdhhdaa.listPlays
open Go.ChangeShapes Go.WideShapes Go.ChangeAt Go.RowKit
set_option linter.unusedVariables false
set_option maxRecDepth 100000 in
set_option maxHeartbeats 16000000 in
theorem rest_is : stage2.2.1 := by
  intro m row w HA vc hl h3 h3' N w0 _ h1 h2 w1 w2 p ha _ _ wr u4 u9 u10 u11 u12 u13 u14 u15 u16 u17 u18 u19 u20 u21 u22 u51 u52 u53 u54 u55 u56 u57 u58 u59 u60 u61 u62 u63 u64 u65 u66 u67 u68 u69 u70 u71 u72 u73 u74 u75 u76 u77 u78 u79 u80 u81 u82 u83 u84 u85 u86 u87 u88 u89 u90 u91 u92 u93 u94 u95 u96 u97 u98 u99 u100 u101 u102 u103 u104 u105 u106 u107 u108 u109 u110 u111 u112 u113 u114 u115 u116 u117 u118 u119 u120 u121 u122 u123 u124 u125 u126 u127 u128 u129 u130 u131 u132 u133 u134 u135 u136 u137 u138 u139 u140 u141 u142 u143 u144 u145 u146 u147 u148 u149 u150 u151 u152 u153 u154 u155 u156 u157 u158 u159 u160 u161 u162 u163 u164 u165 u166 u167 u168 u169 u170 u171 u172 u173 u174 u175 u176 u177 u178 u179 u180 u181 u182 u183 u184 u185 u186 u187 u188 u189 u190 u191 u192 u193 u194 u195 u196 u197 u198 u199 u200 u201 u202 u203 u204 u205 u206 u207 u208 u209 u210 u211 u212 u213 u214 u215 u216 u217 u218 u219 u220 u221 u222 u223 u224 u225 u226 u227 u228 u229 u230 u231 u232 u233 u234 u235 u236 u237 u238 u239 u240 u241 u242 u243 u244 u245 u246 u247 u248 u249 u250 u251 u252 u253 u254 u255 u256 u257 u258 u259 u260 u261 u262 u263 u264 u265 u266 u267 u268 u269 u270 u271 u272 u273 u274 u275 u276 u277 u278 u279 u280 u281 u282 u283 u284 u285 u286 u287 u288 u289 u290 u291 u292 u293 u294 u295 u296 u297 u298 u299 u300 u301 u302 u303 u304 u305 u306 u307 u308 u309 u310 u311 u312 u313 u314 u315 u316 u317 u318 u319 u320 u321 u322 u323 u324 u325 u326 u327 u328 u329 u330 u331 u332 u333 u334 u335 u336 u337 u338 u339 u340 u341 u342 u343 u344 u345 u346 u347 u348 u349 u350 u351 u352 u353 u354 u355 u356 u357 u358 u359 u360 u361 u362 u363 u364 u365 u366 u367 u368 u369 u370 u371 u372 u373 u374 u375 u376 u377 u378 u379 u380 u381 u382 u383 u384 u385 u386 u387 u388 u389 u390 u391 u392 u393 u394 u395 u396 u397 u398 u399 u400 u401 u402 u403 u404 u405 u406 u407 u408 u409 u410 u411 u412 u413 j j1 ba off hba K k1 k2 s R ws V q HL c1 c2 kd wkd rw wrw ii wii xa wxa xb wxb Hx hmc Hlt _ _ jm hq1 hq2 pk1 pk2 k pk3 pk4 Hkq K1 W1 z zK zn1 zn2 g1 g2 Hs0 _ _ aw cw wl wl1 h HVW HWL HH HC1 HC2 kI qI wlI nq ub ubI pc pc0 pcI mm mm1 mm0 Hpc Hub Hmm wc u51 u52 u53 u54 u55 u56 u57 u58 u59 u60 u61 u62 u63 u64 u65 u66 u67 u68 u69 u70 u71 u72 u73 u74 u75 u76 u77 u78 u79 u80 u81 u82 u83 u84 u85 u86 u87 u88 u89 u90 u93 u94 u95 u96 u98 u99 u100 u101 u102 u103 u104 u105 u106 u107 u109 u110 u111 u112 u113 u114 u115 u116 u117 u118 u119 u121 u122 u123 u124 u125 u126 u127 u128 u129 u130 u131 u132 u133 u134 u135 u136 u137 u139 u140 u141 u142 u143 u144 u145 u146 u147 u148 u149 u150 u151 u152 u153 u155 u156 u157 u158 u159 u160 u161 u162 u163 u164 u165 u166 u167 u168 u169 u170 u171 u172 u173 u174 u175 u176 u177 u178 u179 u180 u181 u182 u183 u185 u186 u187 u188 u189 u190 u191 u193 u194 u195 u196 u197 u198 u199 u200 u201 u202 u203 u204 u205 u206 u207 u208 u209 u210 u211 u212 u213 u214 u215 u216 u217 u218 u219 u220 u221 u222 u223 u224 u225 u226 u227 u228 u229 u230 u231 u232 u233 u234 u235 u236 u237 u238 u239 u240 u241 u242 u243 u244 u245 u246 u247 u248 u249 u250 u251 u252 u253 u254 u255 u256 u257 u258 u259 u260 u261 u262 u263 u264 u265 u266 u267 u268 u269 u270 u271 u272 u273 u274 u275 u276 u277 u278 u279 u280 u281 u282 u283 u284 u285 u286 u287 u288 u289 u290 u291 u292 u293 u294 u295 u296 u297 u298 u299 u300 u301 u302 u304 u305 u306 u307 u308 u309 u310 u311 u312 u313 u314 u315 u316 u317 u318 u319 u320 u321 u322 u323 u324 u325 u326 u327 u328 u329 u330 u331 u332 u333 u334 u335 u337 u338 u339 u340 u341 u343 u344 u345 u346 u347 u348 u349 u350 u351 u352 u353 u354 u355 u356 u357 u358 u359 u360 u361 u362 u363 u364 u365 u366 u367 u368 u369 u370 u371 u372 u373 u374 u375 u376 u377 u378 u379 u380 u381 u382 u383 u384 u385 u386 u387 u388 u389 u390 u391 u392 u393 u394 u395 u396 u397 u398 u399 u400 u401 u402 u403 u404 u405 u406 u407 u408 u409 u410 u411 u412 u413 Hs d0 d1 d2 d3 d4 zlt bi HBi _ _ wc u4 u6 u7 u15 u16 u17 u18 u20 u21 u51 u52 u53 u54 u55 u56 u57 u58 u59 u60 u61 u62 u63 u64 u65 u66 u67 u68 u69 u70 u71 u72 u73 u74 u75 u76 u77 u78 u79 u80 u81 u82 u83 u84 u85 u86 u87 u88 u89 u90 u92 u93 u94 u95 u96 u97 u98 u99 u100 u101 u102 u103 u104 u105 u106 u107 u108 u109 u110 u111 u112 u113 u114 u115 u116 u117 u118 u119 u120 u121 u122 u123 u124 u125 u126 u127 u128 u129 u130 u131 u132 u133 u134 u135 u136 u137 u138 u139 u140 u141 u142 u143 u144 u145 u146 u147 u148 u149 u150 u151 u152 u153 u154 u155 u156 u157 u158 u159 u160 u161 u162 u163 u164 u165 u166 u167 u168 u169 u170 u171 u172 u173 u174 u175 u176 u177 u178 u179 u180 u181 u182 u183 u184 u185 u186 u187 u188 u189 u190 u191 u192 u193 u194 u195 u196 u197 u198 u199 u200 u201 u202 u203 u204 u205 u206 u207 u208 u209 u210 u211 u212 u213 u214 u215 u216 u217 u218 u219 u220 u221 u222 u223 u224 u225 u226 u227 u228 u229 u230 u231 u232 u233 u234 u235 u236 u237 u238 u239 u240 u241 u242 u243 u244 u245 u246 u247 u248 u249 u250 u251 u252 u253 u254 u255 u256 u257 u258 u259 u260 u261 u262 u263 u264 u265 u266 u267 u268 u269 u270 u271 u272 u273 u274 u275 u276 u277 u278 u279 u280 u281 u282 u283 u284 u285 u286 u287 u288 u289 u290 u291 u292 u293 u294 u295 u296 u297 u298 u299 u300 u301 u302 u303 u304 u305 u306 u307 u308 u309 u310 u311 u312 u313 u314 u315 u316 u317 u318 u319 u320 u321 u322 u323 u324 u325 u326 u327 u328 u329 u330 u331 u332 u333 u334 u335 u336 u337 u338 u339 u340 u341 u342 u343 u344 u345 u346 u347 u348 u349 u350 u351 u352 u353 u354 u355 u356 u357 u358 u359 u360 u361 u362 u363 u364 u365 u366 u367 u368 u369 u370 u371 u372 u373 u374 u375 u376 u377 u378 u379 u380 u381 u382 u383 u384 u385 u386 u387 u388 u389 u390 u391 u392 u393 u394 u395 u396 u397 u398 u399 u400 u401 u402 u403 u404 u405 u406 u407 u408 u409 u410 u411 u412 u413 hcut
  clear d0 d1 d2 d3 d4 zlt HBi Hs Hs0 HL Hkq HVW HWL HH HC1 HC2 kI qI wlI ubI pc0 pcI mm1 mm0 Hpc Hub Hmm pk1 pk2 pk3 pk4 zK hq1 hq2 wl1
  obtain ⟨⟨K2, k1', k2', s2, R2, ws2, V2, hs⟩, hz⟩ := hcut
  have hj := Hlt.out
  obtain ⟨q2, HL⟩ : ∃ q, Hid (R2.length = q) := ⟨_, rfl⟩
  have hq1 : 1 ≤ q2 := by have := hs.pos; rw [HL.out] at this; exact this
  have hq2 : q2 ≤ j + 2 := by have := hs.le; rw [HL.out] at this; exact this
  obtain ⟨pk1, pk2, k', pk3, pk4⟩ := pickm ii (q2 : Int) (by omega) (by omega)
  have hkq : k' < R2.length := by rw [HL.out]; omega
  have hsl1 := hs.ids.slice
  have hsl2 := hs.want.slice
  rw [HL.out] at hsl1 hsl2
  obtain ⟨a1, c1, rfl⟩ := hsl1
  obtain ⟨a2, c2, rfl⟩ := hsl2
  obtain ⟨ga, cp1, hsl1, hcp1, hKg1, hcl1⟩ := hs.ids.at_ (i := k') hkq
  obtain ⟨gb, cp2, hsl2, hcp2, hKg2, hlg2, hcl2⟩ := hs.want.at_ hs.pos
  have hga1 : a1 = some ⟨ga, 0, none⟩ := by injection hsl1
  have hga2 : a2 = some ⟨gb, 0, none⟩ := by injection hsl2
  subst hga1 hga2
  obtain ⟨aw', cw', hvw⟩ := (hs.items k' hkq).items.val
  have la : ga < wc.heap.size := hs.klt ga (hs.sub1 ga hKg1)
  have r1 : wc.cell? ⟨ga, k', none⟩ = some (.int .i64 (R2.getD k' 0)) := hcl1 k' hkq
  have r2 : wc.cell? ⟨gb, k', none⟩ = some (V2.getD k' undef) := hcl2 k' _ (by rw [List.getD_eq_getElem?_getD, List.getElem?_eq_getElem (by rw [hs.lenV]; exact hkq)]; rfl)
  obtain ⟨wl', hwl⟩ : ∃ wl, (ws2.getD k' []).length = wl := ⟨_, rfl⟩
  have wl1 : wl' ≤ j + 1 := by rw [← hwl]; exact (hs.rg k' hkq).2
  have HIt := Lib.hid (hs.items k' hkq)
  rw [hvw] at HIt
  rw [hvw, hwl] at r2
  rw [hwl] at HIt
  have HLh := Lib.hid (hs.lh k' hkq)
  have HRg := Lib.hid (hs.rg k' hkq).1
  have HF := Lib.hid (firm_at (s := s2) hkq)
  obtain ⟨h', hh⟩ : ∃ h, R2.getD k' 0 = h := ⟨_, rfl⟩
  rw [hh] at r1 HLh HF
  obtain ⟨l', hl'⟩ : ∃ l, ws2.getD k' [] = l := ⟨_, rfl⟩
  rw [hl'] at HLh HRg hwl HIt
  have HWl := Lib.hid hwl
  have G := Lib.hid (hs.goodb (by omega))
  have HAl := Lib.hid (fun W (ha : Ars W K2 p s2) => all_is (w := W) G.out (by decide) HLh.out (.inr HF.out) (by rw [HWl.out]; omega) HRg.out ha)
  have HLn := Lib.hid (fun W (ha : Ars W K2 p s2) => len_at (w := W) HWl.out G.out (by decide) HLh.out (.inr HF.out) (by omega) ha)
  have Td := Lib.hid (hs.below ((Below.refl wc.heap.size wc).drew))
  have T := Lib.hid hs
  have kI : (k' : Int) < (q2 : Int) := by omega
  have qI : (q2 : Int) ≤ 102 := by omega
  have wlI : (wl' : Int) ≤ 101 := by omega
  have La := Lib.hid la
  have Lb := Lib.hid hlg2
  have R1 := Lib.hid r1
  have R2' := Lib.hid r2
  clear hs hsl1 hsl2 hcp1 hcp2 hKg1 hKg2 hcl1 hcl2 hvw hwl hh hl' la hlg2 hj wl1
  go_wp2_with fail
  go_region_held3 (fun w' => w'.cell? ⟨ga, k', none⟩ = some (.int .i64 h') ∧ w'.cell? ⟨gb, k', none⟩ = some (.slice aw' wl' cw')) (go_keep) (first | (go_at_call 22; refine (HAl.out _ Td.out.ars).mono ?_; rintro e w5 ⟨va, rfl, ho, hb⟩; have T5 := Lib.hid (Td.out.below hb); have f1 : w5.cell? ⟨ga, k', none⟩ = some (.int .i64 h') := (hb.cell La.out).trans R1.out; have f2 : w5.cell? ⟨gb, k', none⟩ = some (.slice aw' wl' cw') := (hb.cell Lb.out).trans R2'.out; have I5 := Lib.hid (Items.own ho); have B5 := Lib.hid hb; clear ho hb) | (go_at_call 21; have t := I5; refine (same_true I5.out ((HIt.out.kept (Kept.of_below ((Below.refl wc.heap.size wc).drew) _)).kept (Kept.of_below B5.out _)).items (by rw [HWl.out]; omega)).mono ?_; rintro e w6 ⟨rfl, hb⟩; have T6 := Lib.hid (T5.out.below hb); have f3 : w6.cell? ⟨ga, k', none⟩ = some (.int .i64 h') := (hb.cell (Nat.lt_of_lt_of_le La.out B5.out.size)).trans f1; have f4 : w6.cell? ⟨gb, k', none⟩ = some (.slice aw' wl' cw') := (hb.cell (Nat.lt_of_lt_of_le Lb.out B5.out.size)).trans f2; have B6 := Lib.hid hb; clear hb) | (go_at_call 8; have t := T6; refine (HLn.out _ T6.out.ars).mono ?_; rintro e w7 ⟨rfl, ha, hb⟩; have T7 := Lib.hid (T6.out.below hb); have f5 : w7.cell? ⟨ga, k', none⟩ = some (.int .i64 h') := (hb.cell (Nat.lt_of_lt_of_le La.out (Nat.le_trans B5.out.size B6.out.size))).trans f3; have f6 : w7.cell? ⟨gb, k', none⟩ = some (.slice aw' wl' cw') := (hb.cell (Nat.lt_of_lt_of_le Lb.out (Nat.le_trans B5.out.size B6.out.size))).trans f4; clear ha hb))
  all_goals
    go_wp2_with fail
    go_roundw
    case rel => exact ⟨j + 1, by go_num, by have := Hlt.out; omega, at_ T7.out⟩
    case measure => simp [intOf]; have := Hlt.out; omega
end Go.Proofs.Ytcdmebjggdhhdaa.listPlays
