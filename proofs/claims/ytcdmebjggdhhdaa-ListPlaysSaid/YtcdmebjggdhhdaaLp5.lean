/- ListPlays, a round: Work, and what is no operation; the other kinds are statements of their own. -/
import Derived.Test.YtcdmebjggdhhdaaLp2
import Derived.Test.YtcdmebjggdhhdaaGpP
namespace Go.Proofs.Ytcdmebjggdhhdaa.listPlays
open Go.ChangeShapes Go.WideShapes Go.ChangeAt Go.RowKit
set_option linter.unusedVariables false
set_option maxRecDepth 100000 in
set_option maxHeartbeats 16000000 in
noncomputable def stage3 : PSigma fun T1 : Prop => PSigma fun T2 : Prop => PSigma fun T3 : Prop => PSigma fun T4 : Prop => PSigma fun T5 : Prop => (T1 → T2 → T3 → T4 → T5 → stage2.1) := by
  apply PSigma.mk
  apply PSigma.mk
  apply PSigma.mk
  apply PSigma.mk
  apply PSigma.mk
  focus
    intro ST1 ST2 ST3 ST4 ST5
    replace ST1 := Lib.hid ST1
    replace ST2 := Lib.hid ST2
    replace ST3 := Lib.hid ST3
    replace ST4 := Lib.hid ST4
    replace ST5 := Lib.hid ST5
    intro m row w HA vc hl h3 h3' N w0 _ h1 h2 w1 w2 p ha _ _ wr u4 u9 u10 u11 u12 u13 u14 u15 u16 u17 u18 u19 u20 u21 u22 u51 u52 u53 u54 u55 u56 u57 u58 u59 u60 u61 u62 u63 u64 u65 u66 u67 u68 u69 u70 u71 u72 u73 u74 u75 u76 u77 u78 u79 u80 u81 u82 u83 u84 u85 u86 u87 u88 u89 u90 u91 u92 u93 u94 u95 u96 u97 u98 u99 u100 u101 u102 u103 u104 u105 u106 u107 u108 u109 u110 u111 u112 u113 u114 u115 u116 u117 u118 u119 u120 u121 u122 u123 u124 u125 u126 u127 u128 u129 u130 u131 u132 u133 u134 u135 u136 u137 u138 u139 u140 u141 u142 u143 u144 u145 u146 u147 u148 u149 u150 u151 u152 u153 u154 u155 u156 u157 u158 u159 u160 u161 u162 u163 u164 u165 u166 u167 u168 u169 u170 u171 u172 u173 u174 u175 u176 u177 u178 u179 u180 u181 u182 u183 u184 u185 u186 u187 u188 u189 u190 u191 u192 u193 u194 u195 u196 u197 u198 u199 u200 u201 u202 u203 u204 u205 u206 u207 u208 u209 u210 u211 u212 u213 u214 u215 u216 u217 u218 u219 u220 u221 u222 u223 u224 u225 u226 u227 u228 u229 u230 u231 u232 u233 u234 u235 u236 u237 u238 u239 u240 u241 u242 u243 u244 u245 u246 u247 u248 u249 u250 u251 u252 u253 u254 u255 u256 u257 u258 u259 u260 u261 u262 u263 u264 u265 u266 u267 u268 u269 u270 u271 u272 u273 u274 u275 u276 u277 u278 u279 u280 u281 u282 u283 u284 u285 u286 u287 u288 u289 u290 u291 u292 u293 u294 u295 u296 u297 u298 u299 u300 u301 u302 u303 u304 u305 u306 u307 u308 u309 u310 u311 u312 u313 u314 u315 u316 u317 u318 u319 u320 u321 u322 u323 u324 u325 u326 u327 u328 u329 u330 u331 u332 u333 u334 u335 u336 u337 u338 u339 u340 u341 u342 u343 u344 u345 u346 u347 u348 u349 u350 u351 u352 u353 u354 u355 u356 u357 u358 u359 u360 u361 u362 u363 u364 u365 u366 u367 u368 u369 u370 u371 u372 u373 u374 u375 u376 u377 u378 u379 u380 u381 u382 u383 u384 u385 u386 u387 u388 u389 u390 u391 u392 u393 u394 u395 u396 u397 u398 u399 u400 u401 u402 u403 u404 u405 u406 u407 u408 u409 u410 u411 u412 u413 j j1 ba off hba K k1 k2 s R ws V q HL c1 c2 kd wkd rw wrw ii wii xa wxa xb wxb Hx hmc Hlt _ _ jm hq1 hq2 pk1 pk2 k pk3 pk4 Hkq K1 W1 z zK zn1 zn2 g1 g2 Hs0 _ _ aw cw wl wl1 h HVW HWL HH HC1 HC2 kI qI wlI nq ub ubI pc pc0 pcI mm mm1 mm0 Hpc Hub Hmm wc u51 u52 u53 u54 u55 u56 u57 u58 u59 u60 u61 u62 u63 u64 u65 u66 u67 u68 u69 u70 u71 u72 u73 u74 u75 u76 u77 u78 u79 u80 u81 u82 u83 u84 u85 u86 u87 u88 u89 u90 u93 u94 u95 u96 u98 u99 u100 u101 u102 u103 u104 u105 u106 u107 u109 u110 u111 u112 u113 u114 u115 u116 u117 u118 u119 u121 u122 u123 u124 u125 u126 u127 u128 u129 u130 u131 u132 u133 u134 u135 u136 u137 u139 u140 u141 u142 u143 u144 u145 u146 u147 u148 u149 u150 u151 u152 u153 u155 u156 u157 u158 u159 u160 u161 u162 u163 u164 u165 u166 u167 u168 u169 u170 u171 u172 u173 u174 u175 u176 u177 u178 u179 u180 u181 u182 u183 u185 u186 u187 u188 u189 u190 u191 u193 u194 u195 u196 u197 u198 u199 u200 u201 u202 u203 u204 u205 u206 u207 u208 u209 u210 u211 u212 u213 u214 u215 u216 u217 u218 u219 u220 u221 u222 u223 u224 u225 u226 u227 u228 u229 u230 u231 u232 u233 u234 u235 u236 u237 u238 u239 u240 u241 u242 u243 u244 u245 u246 u247 u248 u249 u250 u251 u252 u253 u254 u255 u256 u257 u258 u259 u260 u261 u262 u263 u264 u265 u266 u267 u268 u269 u270 u271 u272 u273 u274 u275 u276 u277 u278 u279 u280 u281 u282 u283 u284 u285 u286 u287 u288 u289 u290 u291 u292 u293 u294 u295 u296 u297 u298 u299 u300 u301 u302 u304 u305 u306 u307 u308 u309 u310 u311 u312 u313 u314 u315 u316 u317 u318 u319 u320 u321 u322 u323 u324 u325 u326 u327 u328 u329 u330 u331 u332 u333 u334 u335 u337 u338 u339 u340 u341 u343 u344 u345 u346 u347 u348 u349 u350 u351 u352 u353 u354 u355 u356 u357 u358 u359 u360 u361 u362 u363 u364 u365 u366 u367 u368 u369 u370 u371 u372 u373 u374 u375 u376 u377 u378 u379 u380 u381 u382 u383 u384 u385 u386 u387 u388 u389 u390 u391 u392 u393 u394 u395 u396 u397 u398 u399 u400 u401 u402 u403 u404 u405 u406 u407 u408 u409 u410 u411 u412 u413 Hs d0 d1 d2 d3 d4 zlt bi HBi _ _ _ _ _ _
    obtain ⟨l, hl⟩ : ∃ l, ws.getD k [] = l := ⟨_, rfl⟩
    have hit := Hs.out.items k Hkq.out
    have hlh := Hs.out.lh k Hkq.out
    have hrg := (Hs.out.rg k Hkq.out).1
    have hf := firm_at (s := s) Hkq.out
    have hwl := HWL.out
    rw [HVW.out, hl] at hit
    rw [HH.out, hl] at hlh
    rw [hl] at hrg hwl
    rw [HH.out] at hf
    rw [hwl] at hit
    have HIt := Lib.hid hit
    have HLh := Lib.hid hlh
    have HRg := Lib.hid hrg
    have HF := Lib.hid hf
    have HWl := Lib.hid hwl
    have HLl := Lib.hid hl
    have G := Lib.hid (Hs.out.goodb (by have := Hlt.out; omega))
    have HRl := Lib.hid (show R.length ≤ 200000 by rw [HL.out]; omega)
    have HMb := Lib.hid (show s.made - s.busy ≤ 1000000000 by have := Hs.out.mb; have := Hlt.out; omega)
    clear hit hlh hrg hf hwl hl pk1 pk2 pk3 pk4 d1 HVW HWL
    by_cases q1 : kd = 1
    · subst q1
      clear ST2 ST3 ST4 ST5
      repeat (first | exact ST1.out | revert ‹_›)
    have q1' : (kd == 1) = false := by simpa using q1
    by_cases q2 : kd = 2
    · subst q2
      clear q1
      clear ST1 ST3 ST4 ST5
      repeat (first | exact ST2.out | revert ‹_›)
    have q2' : (kd == 2) = false := by simpa using q2
    by_cases q3 : kd = 3
    · subst q3
      clear q1 q2
      clear ST1 ST2 ST4 ST5
      repeat (first | exact ST3.out | revert ‹_›)
    have q3' : (kd == 3) = false := by simpa using q3
    by_cases q4 : kd = 4
    · subst q4
      clear q1 q2 q3
      clear ST1 ST2 ST3 ST5
      repeat (first | exact ST4.out | revert ‹_›)
    have q4' : (kd == 4) = false := by simpa using q4
    by_cases q5 : kd = 5
    · subst q5
      clear q1 q2 q3 q4 ST1 ST2 ST3 ST4 ST5
      have sn := Hs.out.good (by have := Hlt.out; omega)
      have H := Lib.hid (work_is (B := 100000000000) ii (s := s) (s' := (s.work ii.toNat).1) (n := (s.work ii.toNat).2) rfl rfl Hs.out.ars sn (by decide) (bounds_i64 wii).2)
      clear sn
      go_wp2_with fail
      refine H.out.mono ?_
      rintro e w5 ⟨rfl, ha, hk⟩
      have T5 := Lib.hid (Hs.out.work ii.toNat ha hk)
      have C5 := Lib.hid ((hk.cell (o := 2) zlt zK).trans d2)
      clear ha hk H
      go_wp2_with fail
      go_meet
      case rel => exact ⟨at_ T5.out, C5.out⟩
    have q5' : (kd == 5) = false := by simpa using q5
    by_cases q6 : kd = 6
    · subst q6
      clear q1 q2 q3 q4 q5
      clear ST1 ST2 ST3 ST4
      repeat (first | exact ST5.out | revert ‹_›)
    have q6' : (kd == 6) = false := by simpa using q6
    clear q1 q2 q3 q4 q5 q6 ST1 ST2 ST3 ST4 ST5
    go_wp2_with fail
    go_meet
    case rel => exact ⟨at_ Hs.out.next, d2⟩
end Go.Proofs.Ytcdmebjggdhhdaa.listPlays
