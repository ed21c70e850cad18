/- ListPlays: what should be there behind Set. -/
import Derived.Test.YtcdmebjggdhhdaaLk3
import Derived.Test.YtcdmebjggdhhdaaGpP
namespace Go.Proofs.Ytcdmebjggdhhdaa.listPlays
open Go.ChangeShapes Go.WideShapes Go.ChangeAt Go.RowKit
set_option linter.unusedVariables false
set_option maxRecDepth 100000 in
set_option maxHeartbeats 16000000 in
theorem now3 : kind3.1 := by
  intro m row w HA vc hl h3 h3' N w0 _ h1 h2 w1 w2 p ha _ _ wr u4 u9 u10 u11 u12 u13 u14 u15 u16 u17 u18 u19 u20 u21 u22 u51 u52 u53 u54 u55 u56 u57 u58 u59 u60 u61 u62 u63 u64 u65 u66 u67 u68 u69 u70 u71 u72 u73 u74 u75 u76 u77 u78 u79 u80 u81 u82 u83 u84 u85 u86 u87 u88 u89 u90 u91 u92 u93 u94 u95 u96 u97 u98 u99 u100 u101 u102 u103 u104 u105 u106 u107 u108 u109 u110 u111 u112 u113 u114 u115 u116 u117 u118 u119 u120 u121 u122 u123 u124 u125 u126 u127 u128 u129 u130 u131 u132 u133 u134 u135 u136 u137 u138 u139 u140 u141 u142 u143 u144 u145 u146 u147 u148 u149 u150 u151 u152 u153 u154 u155 u156 u157 u158 u159 u160 u161 u162 u163 u164 u165 u166 u167 u168 u169 u170 u171 u172 u173 u174 u175 u176 u177 u178 u179 u180 u181 u182 u183 u184 u185 u186 u187 u188 u189 u190 u191 u192 u193 u194 u195 u196 u197 u198 u199 u200 u201 u202 u203 u204 u205 u206 u207 u208 u209 u210 u211 u212 u213 u214 u215 u216 u217 u218 u219 u220 u221 u222 u223 u224 u225 u226 u227 u228 u229 u230 u231 u232 u233 u234 u235 u236 u237 u238 u239 u240 u241 u242 u243 u244 u245 u246 u247 u248 u249 u250 u251 u252 u253 u254 u255 u256 u257 u258 u259 u260 u261 u262 u263 u264 u265 u266 u267 u268 u269 u270 u271 u272 u273 u274 u275 u276 u277 u278 u279 u280 u281 u282 u283 u284 u285 u286 u287 u288 u289 u290 u291 u292 u293 u294 u295 u296 u297 u298 u299 u300 u301 u302 u303 u304 u305 u306 u307 u308 u309 u310 u311 u312 u313 u314 u315 u316 u317 u318 u319 u320 u321 u322 u323 u324 u325 u326 u327 u328 u329 u330 u331 u332 u333 u334 u335 u336 u337 u338 u339 u340 u341 u342 u343 u344 u345 u346 u347 u348 u349 u350 u351 u352 u353 u354 u355 u356 u357 u358 u359 u360 u361 u362 u363 u364 u365 u366 u367 u368 u369 u370 u371 u372 u373 u374 u375 u376 u377 u378 u379 u380 u381 u382 u383 u384 u385 u386 u387 u388 u389 u390 u391 u392 u393 u394 u395 u396 u397 u398 u399 u400 u401 u402 u403 u404 u405 u406 u407 u408 u409 u410 u411 u412 u413 j j1 ba off hba K k1 k2 s R ws V q HL c1 c2 rw wrw ii wii xa wxa xb wxb Hx hmc Hlt _ _ jm hq1 hq2 k Hkq K1 W1 z zK zn1 zn2 g1 g2 Hs0 _ _ aw cw wl wl1 h HH HC1 HC2 kI qI wlI nq ub ubI pc pc0 pcI mm mm1 mm0 Hpc Hub Hmm wb u51 u52 u53 u54 u55 u56 u57 u58 u59 u60 u61 u62 u63 u64 u65 u66 u67 u68 u69 u70 u71 u72 u73 u74 u75 u76 u77 u78 u79 u80 u81 u82 u83 u84 u85 u86 u87 u88 u89 u90 u93 u94 u95 u96 u98 u99 u100 u101 u102 u103 u104 u105 u106 u107 u109 u110 u111 u112 u113 u114 u115 u116 u117 u118 u119 u121 u122 u123 u124 u125 u126 u127 u128 u129 u130 u131 u132 u133 u134 u135 u136 u137 u139 u140 u141 u142 u143 u144 u145 u146 u147 u148 u149 u150 u151 u152 u153 u155 u156 u157 u158 u159 u160 u161 u162 u163 u164 u165 u166 u167 u168 u169 u170 u171 u172 u173 u174 u175 u176 u177 u178 u179 u180 u181 u182 u183 u185 u186 u187 u188 u189 u190 u191 u193 u194 u195 u196 u197 u198 u199 u200 u201 u202 u203 u204 u205 u206 u207 u208 u209 u210 u211 u212 u213 u214 u215 u216 u217 u218 u219 u220 u221 u222 u223 u224 u225 u226 u227 u228 u229 u230 u231 u232 u233 u234 u235 u236 u237 u238 u239 u240 u241 u242 u243 u244 u245 u246 u247 u248 u249 u250 u251 u252 u253 u254 u255 u256 u257 u258 u259 u260 u261 u262 u263 u264 u265 u266 u267 u268 u269 u270 u271 u272 u273 u274 u275 u276 u277 u278 u279 u280 u281 u282 u283 u284 u285 u286 u287 u288 u289 u290 u291 u292 u293 u294 u295 u296 u297 u298 u299 u300 u301 u302 u304 u305 u306 u307 u308 u309 u310 u311 u312 u313 u314 u315 u316 u317 u318 u319 u320 u321 u322 u323 u324 u325 u326 u327 u328 u329 u330 u331 u332 u333 u334 u335 u337 u338 u339 u340 u341 u343 u344 u345 u346 u347 u348 u349 u350 u351 u352 u353 u354 u355 u356 u357 u358 u359 u360 u361 u362 u363 u364 u365 u366 u367 u368 u369 u370 u371 u372 u373 u374 u375 u376 u377 u378 u379 u380 u381 u382 u383 u384 u385 u386 u387 u388 u389 u390 u391 u392 u393 u394 u395 u396 u397 u398 u399 u400 u401 u402 u403 u404 u405 u406 u407 u408 u409 u410 u411 u412 u413 Hs bi HBi _ _ _ _ _ l HIt HLh HRg HF HWl HLl G HRl HMb wkd _ q1' q2' f0 l2 HF0 HL2 HN wc u15 u16 u51 u52 u53 u54 u55 u56 u57 u58 u59 u60 u61 u62 u63 u64 u65 u66 u67 u68 u69 u70 u71 u72 u73 u74 u75 u76 u77 u78 u79 u80 u81 u82 u83 u84 u85 u86 u87 u88 u89 u90 u93 u94 u95 u96 u98 u99 u100 u101 u102 u103 u104 u105 u106 u107 u108 u109 u110 u111 u112 u113 u114 u115 u116 u117 u118 u119 u120 u121 u122 u123 u124 u125 u126 u127 u128 u129 u130 u131 u132 u133 u134 u135 u136 u137 u139 u140 u141 u142 u143 u144 u145 u146 u147 u148 u149 u150 u151 u152 u153 u155 u156 u157 u158 u159 u160 u161 u162 u163 u164 u165 u166 u167 u168 u169 u170 u171 u172 u173 u174 u175 u176 u177 u178 u179 u180 u181 u182 u183 u185 u186 u187 u188 u189 u190 u191 u193 u194 u195 u196 u197 u198 u199 u200 u201 u202 u203 u204 u205 u206 u207 u208 u209 u210 u211 u212 u213 u214 u215 u216 u217 u218 u219 u220 u221 u222 u223 u224 u225 u226 u227 u228 u229 u230 u231 u232 u233 u234 u235 u236 u237 u238 u239 u240 u241 u242 u243 u244 u245 u246 u247 u248 u249 u250 u251 u252 u253 u254 u255 u256 u257 u258 u259 u260 u261 u262 u263 u264 u265 u266 u267 u268 u269 u270 u271 u272 u273 u274 u275 u276 u277 u278 u279 u280 u281 u282 u283 u284 u285 u286 u287 u288 u289 u290 u291 u292 u293 u294 u295 u296 u297 u298 u299 u300 u301 u302 u304 u305 u306 u307 u308 u309 u310 u311 u312 u313 u314 u315 u316 u317 u318 u319 u320 u321 u322 u323 u324 u325 u326 u327 u328 u329 u330 u331 u332 u333 u334 u335 u337 u338 u339 u340 u341 u343 u344 u345 u346 u347 u348 u349 u350 u351 u352 u353 u354 u355 u356 u357 u358 u359 u360 u361 u362 u363 u364 u365 u366 u367 u368 u369 u370 u371 u372 u373 u374 u375 u376 u377 u378 u379 u380 u381 u382 u383 u384 u385 u386 u387 u388 u389 u390 u391 u392 u393 u394 u395 u396 u397 u398 u399 u400 u401 u402 u403 u404 u405 u406 u407 u408 u409 u410 u411 u412 u413 zlt' e0 e2 e3 e4 HK HO _ _ _ _ _ _
  clear HLh HF G HRl HMb HO Hpc Hub Hmm pc0 pcI mm0 mm1 ubI HH kI HC1 HC2 HLl
  by_cases b1 : xa < 0
  · have e1 : f0 = 1 := by rw [← HF0.out, if_pos (.inl b1)]
    have HE1 := Lib.hid e1
    clear e1
    as_aux_lemma =>
      go_wp2_with fail
      go_meet
      case rel =>
        have e1 := HE1.out
        subst e1
        exact ⟨rfl, Below.refl _ _, .inl ⟨by decide, rfl⟩⟩
  by_cases b2 : xb < 0
  · have e1 : f0 = 1 := by rw [← HF0.out, if_pos (.inr b2)]
    have HE1 := Lib.hid e1
    clear e1
    as_aux_lemma =>
      go_wp2_with fail
      go_meet
      case rel =>
        have e1 := HE1.out
        subst e1
        exact ⟨rfl, Below.refl _ _, .inl ⟨by decide, rfl⟩⟩
  have b12 : ¬ (xa < 0 ∨ xb < 0) := by omega
  have hB := HBi.out
  cases bi
  · have hout : ii < 0 ∨ (wl : Int) ≤ ii := by
      have : ¬ (0 ≤ ii ∧ ii < (wl : Int)) := by simpa using hB
      omega
    have e1 : f0 = 3 := by rw [← HF0.out, if_neg b12, if_pos hout]
    clear hB hout HBi b12
    have HE1 := Lib.hid e1
    clear e1
    as_aux_lemma =>
      go_wp2_with fail
      go_meet
      case rel =>
        have e1 := HE1.out
        subst e1
        exact ⟨rfl, Below.refl _ _, .inl ⟨by decide, rfl⟩⟩
  have hin : 0 ≤ ii ∧ ii < (wl : Int) := by simpa using hB
  have e1 : f0 = 0 := by rw [← HF0.out, if_neg b12, if_neg (by omega)]
  have jm2 : wl ≤ 200 := by have := Hlt.out; omega
  obtain ⟨k', rfl⟩ := Int.eq_ofNat_of_zero_le hin.1
  have hkw : k' < wl := by omega
  have HE1 := Lib.hid e1
  have kI' : (k' : Int) < (wl : Int) := by omega
  rw [show ((k' : Int)).toNat = k' from rfl] at HL2
  clear e1 HBi hB hin b12
  have HItc := Lib.hid (HIt.out.kept (HK.out.mono fun _ _ hx => hx.1))
  have HRd := Lib.hid HItc.out.row.reads
  rw [HWl.out] at HRd
  have HKW := Lib.hid hkw
  have BW := Lib.hid (show w.heap.size ≤ wc.heap.size from (Hs.out.bel.trans ((HK.out.mono fun x _ hx => Hs.out.kK x hx).below_of Hs.out.bel.size)).size)
  have HN0 := Lib.hid (show 0 + wl ≤ 1000000000 by omega)
  have HIC := Lib.hid (items_cell l)
  go_wp2_with (at_builtin; refine wpList_append_gen elem_item (Own.nil wc w.heap.size 30 2 (fun _ => False)) (fun b hb => hb.elim) BW.out HRd.out HIC.out HN0.out rfl (.const (.slice none 0 0)) (.tmp 130) rfl rfl rfl ?_)
  intro v1 W1 kN hp
  have ho : Own W1 w.heap.size 30 2 kN v1 wl (itemCells l) := by simpa using hp.own
  have hB1 := grew_below (Below.refl wc.heap.size wc) hp.grew (fun x hx => hx.elim)
  have hn1 := grew_fresh (Nat.le_refl _) hp.grew (fun x hx => hx.elim)
  obtain ⟨gn, cn, rfl, hcn, hkn, hgn, hjn, hfz, hset⟩ := own_two ho (i := k') HKW.out xa xb (by rw [itemCells_len, HWl.out])
  have x2 := (hB1.cell (p := ⟨z, 2, none⟩) zlt').trans e2
  have x3 := (hB1.cell (p := ⟨z, 3, none⟩) zlt').trans e3
  have x4 := (hB1.cell (p := ⟨z, 4, none⟩) zlt').trans e4
  obtain ⟨⟨ua, j0⟩, ⟨ub', j1'⟩⟩ := hjn
  obtain ⟨fz0, fz1⟩ := hfz
  have HB1 := Lib.hid hB1
  have HN1 := Lib.hid hn1
  have HSet := Lib.hid hset
  have HKn := Lib.hid hkn
  clear hp ho hB1 hn1 hset hcn hkn hgn
  go_wp2_with fail
  go_meet
  case rel =>
    have e1 := HE1.out
    subst e1
    have hz := HSet.out
    refine ⟨rfl, (HB1.out.setCell (p := ⟨gn, k' * 2, none⟩) (HN1.out gn HKn.out).1 _).setCell (p := ⟨gn, k' * 2 + 1, none⟩) (HN1.out gn HKn.out).1 _, .inr ⟨rfl, kN, ?_, fun x hx => ⟨(HN1.out x hx).1, by simpa using (HN1.out x hx).2⟩⟩⟩
    rw [items_set (by rw [HWl.out]; exact HKW.out), HL2.out] at hz
    rw [show l2.length = wl by rw [← HL2.out, setL_len' (by rw [HWl.out]; exact HKW.out)]; exact HWl.out]
    exact hz
end Go.Proofs.Ytcdmebjggdhhdaa.listPlays
