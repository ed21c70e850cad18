/- ListPlays: Insert: the call; what should be there, and what is behind it, are statements of their own. -/
import Derived.Test.YtcdmebjggdhhdaaLp5
namespace Go.Proofs.Ytcdmebjggdhhdaa.listPlays
open Go.ChangeShapes Go.WideShapes Go.ChangeAt Go.RowKit
set_option linter.unusedVariables false
set_option maxRecDepth 100000 in
set_option maxHeartbeats 16000000 in
noncomputable def kind1 : PSigma fun T1 : Prop => PSigma fun T2 : Prop => (T1 → T2 → stage3.1) := by
  apply PSigma.mk
  apply PSigma.mk
  focus
    intro ST1 ST2
    replace ST1 := Lib.hid ST1
    replace ST2 := Lib.hid ST2
    intro m row w HA vc hl h3 h3' N w0 _ h1 h2 w1 w2 p ha _ _ wr u4 u9 u10 u11 u12 u13 u14 u15 u16 u17 u18 u19 u20 u21 u22 u51 u52 u53 u54 u55 u56 u57 u58 u59 u60 u61 u62 u63 u64 u65 u66 u67 u68 u69 u70 u71 u72 u73 u74 u75 u76 u77 u78 u79 u80 u81 u82 u83 u84 u85 u86 u87 u88 u89 u90 u91 u92 u93 u94 u95 u96 u97 u98 u99 u100 u101 u102 u103 u104 u105 u106 u107 u108 u109 u110 u111 u112 u113 u114 u115 u116 u117 u118 u119 u120 u121 u122 u123 u124 u125 u126 u127 u128 u129 u130 u131 u132 u133 u134 u135 u136 u137 u138 u139 u140 u141 u142 u143 u144 u145 u146 u147 u148 u149 u150 u151 u152 u153 u154 u155 u156 u157 u158 u159 u160 u161 u162 u163 u164 u165 u166 u167 u168 u169 u170 u171 u172 u173 u174 u175 u176 u177 u178 u179 u180 u181 u182 u183 u184 u185 u186 u187 u188 u189 u190 u191 u192 u193 u194 u195 u196 u197 u198 u199 u200 u201 u202 u203 u204 u205 u206 u207 u208 u209 u210 u211 u212 u213 u214 u215 u216 u217 u218 u219 u220 u221 u222 u223 u224 u225 u226 u227 u228 u229 u230 u231 u232 u233 u234 u235 u236 u237 u238 u239 u240 u241 u242 u243 u244 u245 u246 u247 u248 u249 u250 u251 u252 u253 u254 u255 u256 u257 u258 u259 u260 u261 u262 u263 u264 u265 u266 u267 u268 u269 u270 u271 u272 u273 u274 u275 u276 u277 u278 u279 u280 u281 u282 u283 u284 u285 u286 u287 u288 u289 u290 u291 u292 u293 u294 u295 u296 u297 u298 u299 u300 u301 u302 u303 u304 u305 u306 u307 u308 u309 u310 u311 u312 u313 u314 u315 u316 u317 u318 u319 u320 u321 u322 u323 u324 u325 u326 u327 u328 u329 u330 u331 u332 u333 u334 u335 u336 u337 u338 u339 u340 u341 u342 u343 u344 u345 u346 u347 u348 u349 u350 u351 u352 u353 u354 u355 u356 u357 u358 u359 u360 u361 u362 u363 u364 u365 u366 u367 u368 u369 u370 u371 u372 u373 u374 u375 u376 u377 u378 u379 u380 u381 u382 u383 u384 u385 u386 u387 u388 u389 u390 u391 u392 u393 u394 u395 u396 u397 u398 u399 u400 u401 u402 u403 u404 u405 u406 u407 u408 u409 u410 u411 u412 u413 j j1 ba off hba K k1 k2 s R ws V q HL c1 c2 rw wrw ii wii xa wxa xb wxb Hx hmc Hlt _ _ jm hq1 hq2 k Hkq K1 W1 z zK zn1 zn2 g1 g2 Hs0 _ _ aw cw wl wl1 h HH HC1 HC2 kI qI wlI nq ub ubI pc pc0 pcI mm mm1 mm0 Hpc Hub Hmm wc u51 u52 u53 u54 u55 u56 u57 u58 u59 u60 u61 u62 u63 u64 u65 u66 u67 u68 u69 u70 u71 u72 u73 u74 u75 u76 u77 u78 u79 u80 u81 u82 u83 u84 u85 u86 u87 u88 u89 u90 u93 u94 u95 u96 u98 u99 u100 u101 u102 u103 u104 u105 u106 u107 u109 u110 u111 u112 u113 u114 u115 u116 u117 u118 u119 u121 u122 u123 u124 u125 u126 u127 u128 u129 u130 u131 u132 u133 u134 u135 u136 u137 u139 u140 u141 u142 u143 u144 u145 u146 u147 u148 u149 u150 u151 u152 u153 u155 u156 u157 u158 u159 u160 u161 u162 u163 u164 u165 u166 u167 u168 u169 u170 u171 u172 u173 u174 u175 u176 u177 u178 u179 u180 u181 u182 u183 u185 u186 u187 u188 u189 u190 u191 u193 u194 u195 u196 u197 u198 u199 u200 u201 u202 u203 u204 u205 u206 u207 u208 u209 u210 u211 u212 u213 u214 u215 u216 u217 u218 u219 u220 u221 u222 u223 u224 u225 u226 u227 u228 u229 u230 u231 u232 u233 u234 u235 u236 u237 u238 u239 u240 u241 u242 u243 u244 u245 u246 u247 u248 u249 u250 u251 u252 u253 u254 u255 u256 u257 u258 u259 u260 u261 u262 u263 u264 u265 u266 u267 u268 u269 u270 u271 u272 u273 u274 u275 u276 u277 u278 u279 u280 u281 u282 u283 u284 u285 u286 u287 u288 u289 u290 u291 u292 u293 u294 u295 u296 u297 u298 u299 u300 u301 u302 u304 u305 u306 u307 u308 u309 u310 u311 u312 u313 u314 u315 u316 u317 u318 u319 u320 u321 u322 u323 u324 u325 u326 u327 u328 u329 u330 u331 u332 u333 u334 u335 u337 u338 u339 u340 u341 u343 u344 u345 u346 u347 u348 u349 u350 u351 u352 u353 u354 u355 u356 u357 u358 u359 u360 u361 u362 u363 u364 u365 u366 u367 u368 u369 u370 u371 u372 u373 u374 u375 u376 u377 u378 u379 u380 u381 u382 u383 u384 u385 u386 u387 u388 u389 u390 u391 u392 u393 u394 u395 u396 u397 u398 u399 u400 u401 u402 u403 u404 u405 u406 u407 u408 u409 u410 u411 u412 u413 Hs d2 d3 d4 zlt bi HBi _ _ _ _ _ l HIt HLh HRg HF HWl HLl G HRl HMb wkd d0 _
    obtain ⟨f0, hf0⟩ : ∃ f0 : Int, (if xa < 0 ∨ xb < 0 then 1 else if ii < 0 ∨ (wl : Int) < ii then 3 else 0) = f0 := ⟨_, rfl⟩
    obtain ⟨l2, hl2⟩ : ∃ l2, insL l ii.toNat (xa, xb) = l2 := ⟨_, rfl⟩
    have HF0 := Lib.hid hf0
    have HL2 := Lib.hid hl2
    have HN := Lib.hid (show f0 = 0 → Rg l2 ∧ l2.length ≤ wl + 1 from fun e => by
      have hf0 := HF0.out
      rw [← HL2.out]
      rw [e] at hf0
      by_cases b1 : xa < 0 ∨ xb < 0
      · rw [if_pos b1] at hf0; cases hf0
      · rw [if_neg b1] at hf0
        by_cases b2 : ii < 0 ∨ (wl : Int) < ii
        · rw [if_pos b2] at hf0; cases hf0
        · have := HWl.out
          exact ⟨rg_ins HRg.out ⟨by omega, (bounds_i64 wxa).2⟩ ⟨by omega, (bounds_i64 wxb).2⟩, by rw [insL_len' (by omega)]; omega⟩)
    clear hf0 hl2
    go_upto_block 3 with fail
    go_cut [15, 16] (fun g e W => Out K1 p s R wc f0 l2 wl g e W)
    case first =>
      clear ST1 ST2
      by_cases b1 : xa < 0 ∨ xb < 0
      · have e1 : f0 = 1 := by rw [← HF0.out, if_pos b1]
        have H := Lib.hid (insert_arg (i := ii) Hs.out.gd HRl.out HMb.out HLh.out (.inr HF.out) (by rw [HWl.out]; omega) b1 Hs.out.ars)
        clear b1
        as_aux_lemma =>
          go_wp2_with fail
          refine H.out.mono ?_
          rintro e w5 ⟨rfl, hb⟩
          have B5 := Lib.hid hb
          clear hb H
          go_wp2_with fail
          go_meet
          case rel =>
            subst e1
            exact out_told Hs.out.ars (by decide) (by decide) B5.out wl
      by_cases b2 : ii < 0 ∨ (wl : Int) < ii
      · have e1 : f0 = 3 := by rw [← HF0.out, if_neg b1, if_pos b2]
        have H := Lib.hid (insert_range (i := ii) (x := xa) (y := xb) Hs.out.gd HRl.out HMb.out HLh.out (.inr HF.out) (by rw [HWl.out]; omega) (by omega) (by omega) (by rw [HWl.out]; exact b2) Hs.out.ars)
        clear b1 b2
        as_aux_lemma =>
          go_wp2_with fail
          refine H.out.mono ?_
          rintro e w5 ⟨rfl, hb⟩
          have B5 := Lib.hid hb
          clear hb H
          go_wp2_with fail
          go_meet
          case rel =>
            subst e1
            exact out_told Hs.out.ars (by decide) (by decide) B5.out wl
      · have e1 : f0 = 0 := by rw [← HF0.out, if_neg b1, if_neg b2]
        have H := linsert (x := xa) (y := xb) (i := ii.toNat) Hs.out.gd HRl.out HMb.out HLh.out (.inr HF.out) (by rw [HWl.out]; omega) (by rw [HWl.out]; omega) ⟨by omega, (bounds_i64 wxa).2⟩ ⟨by omega, (bounds_i64 wxb).2⟩ Hs.out.ars
        rw [show ((ii.toNat : Nat) : Int) = ii by omega, HL2.out, HWl.out] at H
        replace H := Lib.hid H
        clear b1 b2
        as_aux_lemma =>
          go_wp2_with fail
          refine H.out.mono ?_
          rintro e w5 ⟨q', s', e', rfl, ha, hk, r⟩
          have A5 := Lib.hid ha
          have K5 := Lib.hid hk
          have R5 := Lib.hid r
          clear ha hk r H
          go_wp2_with fail
          go_meet
          case rel => exact ⟨K5.out, .inr ⟨e1, _, _, _, rfl, rfl, R5.out, A5.out⟩⟩
    case rest =>
      obtain ⟨hk, hcut⟩ := hcut
      have zlt' : z < wc.heap.size := Nat.lt_of_lt_of_le zlt hk.size
      have e0 := (hk.cell (o := 0) zlt zK).trans d0
      have e2 := (hk.cell (o := 2) zlt zK).trans d2
      have e3 := (hk.cell (o := 3) zlt zK).trans d3
      have e4 := (hk.cell (o := 4) zlt zK).trans d4
      have HK := Lib.hid hk
      have HO := Lib.hid hcut
      clear hk hcut d0 d2 d3 d4 zlt
      go_upto_block 4 with fail
      go_cut [17, 18] (fun f now W => Nowb wc w.heap.size f0 l2 f now W)
      case first =>
        clear ST2
        repeat (first | exact ST1.out | revert ‹_›)
      case rest =>
        clear ST1
        repeat (first | exact ST2.out | revert ‹_›)
end Go.Proofs.Ytcdmebjggdhhdaa.listPlays
