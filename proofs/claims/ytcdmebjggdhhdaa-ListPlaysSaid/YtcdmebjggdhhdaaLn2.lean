/- ListPlays: what should be there behind Delete. -/
import Derived.Test.YtcdmebjggdhhdaaLk2
import Derived.Test.YtcdmebjggdhhdaaGpP
namespace Go.Proofs.Ytcdmebjggdhhdaa.listPlays
open Go.ChangeShapes Go.WideShapes Go.ChangeAt Go.RowKit
set_option linter.unusedVariables false
set_option maxRecDepth 100000 in
set_option maxHeartbeats 16000000 in
theorem now2 : kind2.1 := by
  intro m row w HA vc hl h3 h3' N w0 _ h1 h2 w1 w2 p ha _ _ wr u4 u9 u10 u11 u12 u13 u14 u15 u16 u17 u18 u19 u20 u21 u22 u51 u52 u53 u54 u55 u56 u57 u58 u59 u60 u61 u62 u63 u64 u65 u66 u67 u68 u69 u70 u71 u72 u73 u74 u75 u76 u77 u78 u79 u80 u81 u82 u83 u84 u85 u86 u87 u88 u89 u90 u91 u92 u93 u94 u95 u96 u97 u98 u99 u100 u101 u102 u103 u104 u105 u106 u107 u108 u109 u110 u111 u112 u113 u114 u115 u116 u117 u118 u119 u120 u121 u122 u123 u124 u125 u126 u127 u128 u129 u130 u131 u132 u133 u134 u135 u136 u137 u138 u139 u140 u141 u142 u143 u144 u145 u146 u147 u148 u149 u150 u151 u152 u153 u154 u155 u156 u157 u158 u159 u160 u161 u162 u163 u164 u165 u166 u167 u168 u169 u170 u171 u172 u173 u174 u175 u176 u177 u178 u179 u180 u181 u182 u183 u184 u185 u186 u187 u188 u189 u190 u191 u192 u193 u194 u195 u196 u197 u198 u199 u200 u201 u202 u203 u204 u205 u206 u207 u208 u209 u210 u211 u212 u213 u214 u215 u216 u217 u218 u219 u220 u221 u222 u223 u224 u225 u226 u227 u228 u229 u230 u231 u232 u233 u234 u235 u236 u237 u238 u239 u240 u241 u242 u243 u244 u245 u246 u247 u248 u249 u250 u251 u252 u253 u254 u255 u256 u257 u258 u259 u260 u261 u262 u263 u264 u265 u266 u267 u268 u269 u270 u271 u272 u273 u274 u275 u276 u277 u278 u279 u280 u281 u282 u283 u284 u285 u286 u287 u288 u289 u290 u291 u292 u293 u294 u295 u296 u297 u298 u299 u300 u301 u302 u303 u304 u305 u306 u307 u308 u309 u310 u311 u312 u313 u314 u315 u316 u317 u318 u319 u320 u321 u322 u323 u324 u325 u326 u327 u328 u329 u330 u331 u332 u333 u334 u335 u336 u337 u338 u339 u340 u341 u342 u343 u344 u345 u346 u347 u348 u349 u350 u351 u352 u353 u354 u355 u356 u357 u358 u359 u360 u361 u362 u363 u364 u365 u366 u367 u368 u369 u370 u371 u372 u373 u374 u375 u376 u377 u378 u379 u380 u381 u382 u383 u384 u385 u386 u387 u388 u389 u390 u391 u392 u393 u394 u395 u396 u397 u398 u399 u400 u401 u402 u403 u404 u405 u406 u407 u408 u409 u410 u411 u412 u413 j j1 ba off hba K k1 k2 s R ws V q HL c1 c2 rw wrw ii wii xa wxa xb wxb Hx hmc Hlt _ _ jm hq1 hq2 k Hkq K1 W1 z zK zn1 zn2 g1 g2 Hs0 _ _ aw cw wl wl1 h HH HC1 HC2 kI qI wlI nq ub ubI pc pc0 pcI mm mm1 mm0 Hpc Hub Hmm wb u51 u52 u53 u54 u55 u56 u57 u58 u59 u60 u61 u62 u63 u64 u65 u66 u67 u68 u69 u70 u71 u72 u73 u74 u75 u76 u77 u78 u79 u80 u81 u82 u83 u84 u85 u86 u87 u88 u89 u90 u93 u94 u95 u96 u98 u99 u100 u101 u102 u103 u104 u105 u106 u107 u109 u110 u111 u112 u113 u114 u115 u116 u117 u118 u119 u121 u122 u123 u124 u125 u126 u127 u128 u129 u130 u131 u132 u133 u134 u135 u136 u137 u139 u140 u141 u142 u143 u144 u145 u146 u147 u148 u149 u150 u151 u152 u153 u155 u156 u157 u158 u159 u160 u161 u162 u163 u164 u165 u166 u167 u168 u169 u170 u171 u172 u173 u174 u175 u176 u177 u178 u179 u180 u181 u182 u183 u185 u186 u187 u188 u189 u190 u191 u193 u194 u195 u196 u197 u198 u199 u200 u201 u202 u203 u204 u205 u206 u207 u208 u209 u210 u211 u212 u213 u214 u215 u216 u217 u218 u219 u220 u221 u222 u223 u224 u225 u226 u227 u228 u229 u230 u231 u232 u233 u234 u235 u236 u237 u238 u239 u240 u241 u242 u243 u244 u245 u246 u247 u248 u249 u250 u251 u252 u253 u254 u255 u256 u257 u258 u259 u260 u261 u262 u263 u264 u265 u266 u267 u268 u269 u270 u271 u272 u273 u274 u275 u276 u277 u278 u279 u280 u281 u282 u283 u284 u285 u286 u287 u288 u289 u290 u291 u292 u293 u294 u295 u296 u297 u298 u299 u300 u301 u302 u304 u305 u306 u307 u308 u309 u310 u311 u312 u313 u314 u315 u316 u317 u318 u319 u320 u321 u322 u323 u324 u325 u326 u327 u328 u329 u330 u331 u332 u333 u334 u335 u337 u338 u339 u340 u341 u343 u344 u345 u346 u347 u348 u349 u350 u351 u352 u353 u354 u355 u356 u357 u358 u359 u360 u361 u362 u363 u364 u365 u366 u367 u368 u369 u370 u371 u372 u373 u374 u375 u376 u377 u378 u379 u380 u381 u382 u383 u384 u385 u386 u387 u388 u389 u390 u391 u392 u393 u394 u395 u396 u397 u398 u399 u400 u401 u402 u403 u404 u405 u406 u407 u408 u409 u410 u411 u412 u413 Hs bi HBi _ _ _ _ _ l HIt HLh HRg HF HWl HLl G HRl HMb wkd _ q1' f0 l2 HF0 HL2 HN wc u15 u16 u51 u52 u53 u54 u55 u56 u57 u58 u59 u60 u61 u62 u63 u64 u65 u66 u67 u68 u69 u70 u71 u72 u73 u74 u75 u76 u77 u78 u79 u80 u81 u82 u83 u84 u85 u86 u87 u88 u89 u90 u93 u94 u95 u96 u98 u99 u100 u101 u102 u103 u104 u105 u106 u107 u108 u109 u110 u111 u112 u113 u114 u115 u116 u117 u118 u119 u120 u121 u122 u123 u124 u125 u126 u127 u128 u129 u130 u131 u132 u133 u134 u135 u136 u137 u139 u140 u141 u142 u143 u144 u145 u146 u147 u148 u149 u150 u151 u152 u153 u155 u156 u157 u158 u159 u160 u161 u162 u163 u164 u165 u166 u167 u168 u169 u170 u171 u172 u173 u174 u175 u176 u177 u178 u179 u180 u181 u182 u183 u185 u186 u187 u188 u189 u190 u191 u193 u194 u195 u196 u197 u198 u199 u200 u201 u202 u203 u204 u205 u206 u207 u208 u209 u210 u211 u212 u213 u214 u215 u216 u217 u218 u219 u220 u221 u222 u223 u224 u225 u226 u227 u228 u229 u230 u231 u232 u233 u234 u235 u236 u237 u238 u239 u240 u241 u242 u243 u244 u245 u246 u247 u248 u249 u250 u251 u252 u253 u254 u255 u256 u257 u258 u259 u260 u261 u262 u263 u264 u265 u266 u267 u268 u269 u270 u271 u272 u273 u274 u275 u276 u277 u278 u279 u280 u281 u282 u283 u284 u285 u286 u287 u288 u289 u290 u291 u292 u293 u294 u295 u296 u297 u298 u299 u300 u301 u302 u304 u305 u306 u307 u308 u309 u310 u311 u312 u313 u314 u315 u316 u317 u318 u319 u320 u321 u322 u323 u324 u325 u326 u327 u328 u329 u330 u331 u332 u333 u334 u335 u337 u338 u339 u340 u341 u343 u344 u345 u346 u347 u348 u349 u350 u351 u352 u353 u354 u355 u356 u357 u358 u359 u360 u361 u362 u363 u364 u365 u366 u367 u368 u369 u370 u371 u372 u373 u374 u375 u376 u377 u378 u379 u380 u381 u382 u383 u384 u385 u386 u387 u388 u389 u390 u391 u392 u393 u394 u395 u396 u397 u398 u399 u400 u401 u402 u403 u404 u405 u406 u407 u408 u409 u410 u411 u412 u413 zlt' e0 e2 e3 e4 HK HO _ _ _ _ _ _
  clear HLh HF G HRl HMb HO Hpc Hub Hmm pc0 pcI mm0 mm1 ubI HH kI HC1 HC2 HLl
  have hB := HBi.out
  cases bi
  · have hout : ii < 0 ∨ (wl : Int) ≤ ii := by
      have : ¬ (0 ≤ ii ∧ ii < (wl : Int)) := by simpa using hB
      omega
    have e1 : f0 = 3 := by rw [← HF0.out, if_pos hout]
    clear hB hout HBi
    have HE1 := Lib.hid e1
    clear e1
    as_aux_lemma =>
      go_wp2_with fail
      go_meet
      case rel =>
        have e1 := HE1.out
        subst e1
        exact ⟨rfl, Below.refl _ _, .inl ⟨by decide, rfl⟩⟩
  have hin : 0 ≤ ii ∧ ii < (wl : Int) := by simpa using hB
  have e1 : f0 = 0 := by rw [← HF0.out, if_neg (by omega)]
  have jm2 : wl ≤ 200 := by have := Hlt.out; omega
  obtain ⟨k', rfl⟩ := Int.eq_ofNat_of_zero_le hin.1
  have hkw : k' < wl := by omega
  have HE1 := Lib.hid e1
  have kI' : (k' : Int) ≤ (wl : Int) := by omega
  rw [show ((k' : Int)).toNat = k' from rfl] at HL2
  clear e1 HBi hB hin
  go_upto_region 36 with fail
  have HItc := Lib.hid (HIt.out.kept (HK.out.mono fun _ _ hx => hx.1))
  rcases HItc.out.row with ⟨hv, hl0⟩ | ⟨gr, cr, hv, hcr, hgr, hjr⟩
  · have := HWl.out
    rw [hl0] at this
    simp at this
    omega
  rw [HWl.out] at hv hcr
  obtain rfl : aw = some ⟨gr, 0, none⟩ := by injection hv
  obtain rfl : cw = cr := by injection hv
  obtain ⟨oT, hoT⟩ : ∃ o : Option Addr, (if cw = k' + 1 then (some ⟨gr, 0, none⟩ : Option Addr) else some ⟨gr, (k' + 1) * 2, none⟩) = o := ⟨_, rfl⟩
  have HvT := Lib.hid hoT
  have HRd := Lib.hid HItc.out.row.reads
  rw [HWl.out] at HRd
  have HCw := Lib.hid hcr
  have HGr := Lib.hid hgr
  have hk1 : ¬ cw < k' := by omega
  have hcI : (k' : Int) ≤ (cw : Int) := by omega
  have hw1 : IntKind.i64.wrap ((k' : Int) + 1) = (k' : Int) + 1 := IntWalk.i64_in _ (by omega)
  have hk3 : (0 : Int) ≤ (k' : Int) + 1 := by omega
  have hk4 : (k' : Int) + 1 ≤ (wl : Int) := by omega
  have HKW := Lib.hid hkw
  clear hv hcr hgr hjr hoT
  have BW := Lib.hid (show w.heap.size ≤ wc.drew.heap.size from (Hs.out.bel.trans ((HK.out.mono fun x _ hx => Hs.out.kK x hx).below_of Hs.out.bel.size)).size)
  have zd : z < wc.drew.heap.size := zlt'
  have RH := fun W (hW : Below wc.drew.heap.size wc.drew W) => Lib.hid (show Reads W (.slice (some ⟨gr, 0, none⟩) k' cw) 2 k' ((itemCells l).take (k' * 2)) from reads_head (HRd.out.kept (Kept.of_below (((Below.refl _ _).drew).trans hW) (fun b => b < wc.heap.size)) (fun b hb => by cases hb; exact HGr.out)) (Nat.le_of_lt HKW.out) _ (by have := HCw.out; have := HKW.out; omega))
  have RT := fun W (hW : Below wc.drew.heap.size wc.drew W) => Lib.hid (show Reads W (.slice oT (wl - (k' + 1)) (cw - (k' + 1))) 2 (wl - (k' + 1)) ((itemCells l).drop ((k' + 1) * 2)) from reads_tail (HRd.out.kept (Kept.of_below (((Below.refl _ _).drew).trans hW) (fun b => b < wc.heap.size)) (fun b hb => by cases hb; exact HGr.out)) (by have := HKW.out; omega) HCw.out HvT.out)
  have HW10 := Lib.hid jm2
  refine wp_region_noPanic ?_
  refine wp_region_held_drew (S := fun W => Below wc.drew.heap.size wc.drew W) (by kernel_rfl) (Below.refl _ _) (fun hHeld => ?_)
  refine takeP (i := 0) (d := some 196) (v := (.slice (some ⟨gr, 0, none⟩) wl cw)) rfl rfl (by kernel_rfl) (by kernel_rfl) (by kernel_rfl) (fun _ _ _ h => h) (by rfl) (fun W hW => by rfl) hHeld ?_
  try simp only [Act.put, List.setIfInBounds_toArray, List.set_cons_zero, List.set_cons_succ]
  refine takeP (i := 1) (d := some 197) (v := (.pointer (some ⟨z, 2, none⟩))) rfl rfl (by kernel_rfl) (by kernel_rfl) (by kernel_rfl) (fun _ _ _ h => h) (by rfl) (fun W hW => by rfl) hHeld ?_
  try simp only [Act.put, List.setIfInBounds_toArray, List.set_cons_zero, List.set_cons_succ]
  refine takeP (i := 2) (d := some 198) (v := (.int .i64 (k' : Int))) rfl rfl (by kernel_rfl) (by kernel_rfl) (by kernel_rfl) (fun _ _ _ h => h) (by rfl) (fun W hW => by have q := (hW.cell (p := ⟨z, 2, none⟩) zlt').trans e2; go_simp) hHeld ?_
  try simp only [Act.put, List.setIfInBounds_toArray, List.set_cons_zero, List.set_cons_succ]
  refine takeP (i := 3) (d := some 199) (v := (.slice (some ⟨gr, 0, none⟩) k' cw)) rfl rfl (by kernel_rfl) (by kernel_rfl) (by kernel_rfl) (fun _ _ _ h => h) (by rfl) (fun W hW => by go_simp) hHeld ?_
  try simp only [Act.put, List.setIfInBounds_toArray, List.set_cons_zero, List.set_cons_succ]
  refine takeP (i := 5) (d := some 201) (v := (.slice (some ⟨gr, 0, none⟩) wl cw)) rfl rfl (by kernel_rfl) (by kernel_rfl) (by kernel_rfl) (fun _ _ _ h => h) (by rfl) (fun W hW => by rfl) hHeld ?_
  try simp only [Act.put, List.setIfInBounds_toArray, List.set_cons_zero, List.set_cons_succ]
  refine takeP (i := 6) (d := some 202) (v := (.pointer (some ⟨z, 2, none⟩))) rfl rfl (by kernel_rfl) (by kernel_rfl) (by kernel_rfl) (fun _ _ _ h => h) (by rfl) (fun W hW => by rfl) hHeld ?_
  try simp only [Act.put, List.setIfInBounds_toArray, List.set_cons_zero, List.set_cons_succ]
  refine takeP (i := 7) (d := some 203) (v := (.int .i64 (k' : Int))) rfl rfl (by kernel_rfl) (by kernel_rfl) (by kernel_rfl) (fun _ _ _ h => h) (by rfl) (fun W hW => by have q := (hW.cell (p := ⟨z, 2, none⟩) zlt').trans e2; go_simp) hHeld ?_
  try simp only [Act.put, List.setIfInBounds_toArray, List.set_cons_zero, List.set_cons_succ]
  refine takeP (i := 8) (d := some 204) (v := (.int .i64 ((k' : Int) + 1))) rfl rfl (by kernel_rfl) (by kernel_rfl) (by kernel_rfl) (fun _ _ _ h => h) (by rfl) (fun W hW => by go_simp) hHeld ?_
  try simp only [Act.put, List.setIfInBounds_toArray, List.set_cons_zero, List.set_cons_succ]
  refine takeP (i := 9) (d := some 205) (v := (.slice oT (wl - (k' + 1)) (cw - (k' + 1)))) rfl rfl (by kernel_rfl) (by kernel_rfl) (by kernel_rfl) (fun _ _ _ h => h) (by rfl) (fun W hW => by have q1 := HvT.out; go_simp) hHeld ?_
  try simp only [Act.put, List.setIfInBounds_toArray, List.set_cons_zero, List.set_cons_succ]
  refine oneOp (i := 4) (by kernel_rfl) ?_
  refine opAt rfl (by rfl) ?_
  refine wp_append_gen elem_item (Own.nil wc.drew w.heap.size 30 2 (fun _ => False)) (fun b hb => hb.elim) BW.out (RH _ (Below.refl _ _)).out (items_one l (items_cell l) _).1 (by have := HW10.out; have := HKW.out; omega) (.const (.slice none 0 0)) (.tmp 199) rfl rfl rfl (fun v1 W1 k1' hp1 => ?_)
  have hB1 := grew_below (Below.refl wc.drew.heap.size wc.drew) hp1.grew (fun x hx => hx.elim)
  have hn1 := grew_fresh (Nat.le_refl _) hp1.grew (fun x hx => hx.elim)
  refine ⟨hB1, ?_⟩
  refine oneOp (i := 10) (by kernel_rfl) ?_
  refine opAt rfl (by rfl) ?_
  refine wp_append_gen elem_item hp1.own (fun x hx => (hn1 x hx).2) (Nat.le_trans BW.out hB1.size) (RT W1 hB1).out (items_one l (items_cell l) _).2 (by have := HW10.out; have := HKW.out; omega) (.tmp 200) (.tmp 205) rfl rfl rfl (fun v2 W2 k2' hp2 => ?_)
  have hB2 := grew_below hB1 hp2.grew (fun x hx => (hn1 x hx).1)
  have hn2 := grew_fresh hB1.size hp2.grew (fun x hx => (hn1 x hx).1)
  have HO2 := Lib.hid hp2.own
  have HB2 := Lib.hid hB2
  have HN2 := Lib.hid hn2
  clear hp1 hp2 hB1 hB2 hn1 hn2
  refine ⟨HB2.out, ?_⟩
  try simp only [Act.put, List.setIfInBounds_toArray]
  refine wpAnyH_ready (rs := [11]) (by kernel_rfl) (by simp) ?_
  refine AllReadyH.cons rfl (fun K hK => ?_) AllReadyH.nil
  go_simp
  refine hK.out _ _ HB2.out (fun _ => ?_)
  clear hK K
  try simp only [List.setIfInBounds_toArray, List.set_cons_zero, List.set_cons_succ]
  refine wpAnyH_done (by kernel_rfl) ?_ _
  refine NoPanic.normal ?_
  go_wp2_with fail
  go_meet
  case rel =>
    have e1 := HE1.out
    subst e1
    refine ⟨rfl, ((Below.refl _ _).drew).trans HB2.out, .inr ⟨rfl, _, ?_, HN2.out⟩⟩
    have := HO2.out
    rw [List.nil_append, items_del, HL2.out] at this
    rw [show l2.length = 0 + k' + (wl - (k' + 1)) by have h1 := delL_len' (l := l) (k := k') (by rw [HWl.out]; exact HKW.out); rw [HL2.out, HWl.out] at h1; have := HKW.out; omega]
    exact this
end Go.Proofs.Ytcdmebjggdhhdaa.listPlays
