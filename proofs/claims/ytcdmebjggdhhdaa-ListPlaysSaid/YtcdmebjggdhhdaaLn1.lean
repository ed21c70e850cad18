/- ListPlays: what should be there behind Insert. -/
import Derived.Test.YtcdmebjggdhhdaaLk1
import Derived.Test.YtcdmebjggdhhdaaGpP
namespace Go.Proofs.Ytcdmebjggdhhdaa.listPlays
open Go.ChangeShapes Go.WideShapes Go.ChangeAt Go.RowKit
set_option linter.unusedVariables false
set_option maxRecDepth 100000 in
set_option maxHeartbeats 16000000 in
theorem now1 : kind1.1 := by
  intro m row w HA vc hl h3 h3' N w0 _ h1 h2 w1 w2 p ha _ _ wr u4 u9 u10 u11 u12 u13 u14 u15 u16 u17 u18 u19 u20 u21 u22 u51 u52 u53 u54 u55 u56 u57 u58 u59 u60 u61 u62 u63 u64 u65 u66 u67 u68 u69 u70 u71 u72 u73 u74 u75 u76 u77 u78 u79 u80 u81 u82 u83 u84 u85 u86 u87 u88 u89 u90 u91 u92 u93 u94 u95 u96 u97 u98 u99 u100 u101 u102 u103 u104 u105 u106 u107 u108 u109 u110 u111 u112 u113 u114 u115 u116 u117 u118 u119 u120 u121 u122 u123 u124 u125 u126 u127 u128 u129 u130 u131 u132 u133 u134 u135 u136 u137 u138 u139 u140 u141 u142 u143 u144 u145 u146 u147 u148 u149 u150 u151 u152 u153 u154 u155 u156 u157 u158 u159 u160 u161 u162 u163 u164 u165 u166 u167 u168 u169 u170 u171 u172 u173 u174 u175 u176 u177 u178 u179 u180 u181 u182 u183 u184 u185 u186 u187 u188 u189 u190 u191 u192 u193 u194 u195 u196 u197 u198 u199 u200 u201 u202 u203 u204 u205 u206 u207 u208 u209 u210 u211 u212 u213 u214 u215 u216 u217 u218 u219 u220 u221 u222 u223 u224 u225 u226 u227 u228 u229 u230 u231 u232 u233 u234 u235 u236 u237 u238 u239 u240 u241 u242 u243 u244 u245 u246 u247 u248 u249 u250 u251 u252 u253 u254 u255 u256 u257 u258 u259 u260 u261 u262 u263 u264 u265 u266 u267 u268 u269 u270 u271 u272 u273 u274 u275 u276 u277 u278 u279 u280 u281 u282 u283 u284 u285 u286 u287 u288 u289 u290 u291 u292 u293 u294 u295 u296 u297 u298 u299 u300 u301 u302 u303 u304 u305 u306 u307 u308 u309 u310 u311 u312 u313 u314 u315 u316 u317 u318 u319 u320 u321 u322 u323 u324 u325 u326 u327 u328 u329 u330 u331 u332 u333 u334 u335 u336 u337 u338 u339 u340 u341 u342 u343 u344 u345 u346 u347 u348 u349 u350 u351 u352 u353 u354 u355 u356 u357 u358 u359 u360 u361 u362 u363 u364 u365 u366 u367 u368 u369 u370 u371 u372 u373 u374 u375 u376 u377 u378 u379 u380 u381 u382 u383 u384 u385 u386 u387 u388 u389 u390 u391 u392 u393 u394 u395 u396 u397 u398 u399 u400 u401 u402 u403 u404 u405 u406 u407 u408 u409 u410 u411 u412 u413 j j1 ba off hba K k1 k2 s R ws V q HL c1 c2 rw wrw ii wii xa wxa xb wxb Hx hmc Hlt _ _ jm hq1 hq2 k Hkq K1 W1 z zK zn1 zn2 g1 g2 Hs0 _ _ aw cw wl wl1 h HH HC1 HC2 kI qI wlI nq ub ubI pc pc0 pcI mm mm1 mm0 Hpc Hub Hmm wb u51 u52 u53 u54 u55 u56 u57 u58 u59 u60 u61 u62 u63 u64 u65 u66 u67 u68 u69 u70 u71 u72 u73 u74 u75 u76 u77 u78 u79 u80 u81 u82 u83 u84 u85 u86 u87 u88 u89 u90 u93 u94 u95 u96 u98 u99 u100 u101 u102 u103 u104 u105 u106 u107 u109 u110 u111 u112 u113 u114 u115 u116 u117 u118 u119 u121 u122 u123 u124 u125 u126 u127 u128 u129 u130 u131 u132 u133 u134 u135 u136 u137 u139 u140 u141 u142 u143 u144 u145 u146 u147 u148 u149 u150 u151 u152 u153 u155 u156 u157 u158 u159 u160 u161 u162 u163 u164 u165 u166 u167 u168 u169 u170 u171 u172 u173 u174 u175 u176 u177 u178 u179 u180 u181 u182 u183 u185 u186 u187 u188 u189 u190 u191 u193 u194 u195 u196 u197 u198 u199 u200 u201 u202 u203 u204 u205 u206 u207 u208 u209 u210 u211 u212 u213 u214 u215 u216 u217 u218 u219 u220 u221 u222 u223 u224 u225 u226 u227 u228 u229 u230 u231 u232 u233 u234 u235 u236 u237 u238 u239 u240 u241 u242 u243 u244 u245 u246 u247 u248 u249 u250 u251 u252 u253 u254 u255 u256 u257 u258 u259 u260 u261 u262 u263 u264 u265 u266 u267 u268 u269 u270 u271 u272 u273 u274 u275 u276 u277 u278 u279 u280 u281 u282 u283 u284 u285 u286 u287 u288 u289 u290 u291 u292 u293 u294 u295 u296 u297 u298 u299 u300 u301 u302 u304 u305 u306 u307 u308 u309 u310 u311 u312 u313 u314 u315 u316 u317 u318 u319 u320 u321 u322 u323 u324 u325 u326 u327 u328 u329 u330 u331 u332 u333 u334 u335 u337 u338 u339 u340 u341 u343 u344 u345 u346 u347 u348 u349 u350 u351 u352 u353 u354 u355 u356 u357 u358 u359 u360 u361 u362 u363 u364 u365 u366 u367 u368 u369 u370 u371 u372 u373 u374 u375 u376 u377 u378 u379 u380 u381 u382 u383 u384 u385 u386 u387 u388 u389 u390 u391 u392 u393 u394 u395 u396 u397 u398 u399 u400 u401 u402 u403 u404 u405 u406 u407 u408 u409 u410 u411 u412 u413 Hs bi HBi _ _ _ _ _ l HIt HLh HRg HF HWl HLl G HRl HMb wkd _ f0 l2 HF0 HL2 HN wc u15 u16 u51 u52 u53 u54 u55 u56 u57 u58 u59 u60 u61 u62 u63 u64 u65 u66 u67 u68 u69 u70 u71 u72 u73 u74 u75 u76 u77 u78 u79 u80 u81 u82 u83 u84 u85 u86 u87 u88 u89 u90 u93 u94 u95 u96 u98 u99 u100 u101 u102 u103 u104 u105 u106 u107 u108 u109 u110 u111 u112 u113 u114 u115 u116 u117 u118 u119 u120 u121 u122 u123 u124 u125 u126 u127 u128 u129 u130 u131 u132 u133 u134 u135 u136 u137 u139 u140 u141 u142 u143 u144 u145 u146 u147 u148 u149 u150 u151 u152 u153 u155 u156 u157 u158 u159 u160 u161 u162 u163 u164 u165 u166 u167 u168 u169 u170 u171 u172 u173 u174 u175 u176 u177 u178 u179 u180 u181 u182 u183 u185 u186 u187 u188 u189 u190 u191 u193 u194 u195 u196 u197 u198 u199 u200 u201 u202 u203 u204 u205 u206 u207 u208 u209 u210 u211 u212 u213 u214 u215 u216 u217 u218 u219 u220 u221 u222 u223 u224 u225 u226 u227 u228 u229 u230 u231 u232 u233 u234 u235 u236 u237 u238 u239 u240 u241 u242 u243 u244 u245 u246 u247 u248 u249 u250 u251 u252 u253 u254 u255 u256 u257 u258 u259 u260 u261 u262 u263 u264 u265 u266 u267 u268 u269 u270 u271 u272 u273 u274 u275 u276 u277 u278 u279 u280 u281 u282 u283 u284 u285 u286 u287 u288 u289 u290 u291 u292 u293 u294 u295 u296 u297 u298 u299 u300 u301 u302 u304 u305 u306 u307 u308 u309 u310 u311 u312 u313 u314 u315 u316 u317 u318 u319 u320 u321 u322 u323 u324 u325 u326 u327 u328 u329 u330 u331 u332 u333 u334 u335 u337 u338 u339 u340 u341 u343 u344 u345 u346 u347 u348 u349 u350 u351 u352 u353 u354 u355 u356 u357 u358 u359 u360 u361 u362 u363 u364 u365 u366 u367 u368 u369 u370 u371 u372 u373 u374 u375 u376 u377 u378 u379 u380 u381 u382 u383 u384 u385 u386 u387 u388 u389 u390 u391 u392 u393 u394 u395 u396 u397 u398 u399 u400 u401 u402 u403 u404 u405 u406 u407 u408 u409 u410 u411 u412 u413 zlt' e0 e2 e3 e4 HK HO _ _ _ _ _ _
  clear HLh HF G HRl HMb HO Hpc Hub Hmm pc0 pcI mm0 mm1 ubI HH kI HC1 HC2 HLl
  by_cases b1 : xa < 0
  · have e1 : f0 = 1 := by rw [← HF0.out, if_pos (.inl b1)]
    have HE1 := Lib.hid e1
    clear e1
    as_aux_lemma =>
      go_wp2_with fail
      go_meet
      case rel =>
        have e1 := HE1.out
        subst e1
        exact ⟨rfl, Below.refl _ _, .inl ⟨by decide, rfl⟩⟩
  by_cases b2 : xb < 0
  · have e1 : f0 = 1 := by rw [← HF0.out, if_pos (.inr b2)]
    have HE1 := Lib.hid e1
    clear e1
    as_aux_lemma =>
      go_wp2_with fail
      go_meet
      case rel =>
        have e1 := HE1.out
        subst e1
        exact ⟨rfl, Below.refl _ _, .inl ⟨by decide, rfl⟩⟩
  have b12 : ¬ (xa < 0 ∨ xb < 0) := by omega
  by_cases b3 : ii < 0
  · have e1 : f0 = 3 := by rw [← HF0.out, if_neg b12, if_pos (.inl b3)]
    clear b12
    have HE1 := Lib.hid e1
    clear e1
    as_aux_lemma =>
      go_wp2_with fail
      go_meet
      case rel =>
        have e1 := HE1.out
        subst e1
        exact ⟨rfl, Below.refl _ _, .inl ⟨by decide, rfl⟩⟩
  by_cases b4 : (wl : Int) < ii
  · have e1 : f0 = 3 := by rw [← HF0.out, if_neg b12, if_pos (.inr b4)]
    clear b12
    have HE1 := Lib.hid e1
    clear e1
    as_aux_lemma =>
      go_wp2_with fail
      go_meet
      case rel =>
        have e1 := HE1.out
        subst e1
        exact ⟨rfl, Below.refl _ _, .inl ⟨by decide, rfl⟩⟩
  have e1 : f0 = 0 := by rw [← HF0.out, if_neg b12, if_neg (by omega)]
  obtain ⟨k', rfl⟩ := Int.eq_ofNat_of_zero_le (show 0 ≤ ii by omega)
  have hkw : k' ≤ wl := by omega
  have HE1 := Lib.hid e1
  have kI' : (k' : Int) ≤ (wl : Int) := by omega
  have HItc := Lib.hid (HIt.out.kept (HK.out.mono fun _ _ hx => hx.1))
  rw [show ((k' : Int)).toNat = k' from rfl] at HL2
  clear e1 b12 HBi
  go_upto_region 32 with fail
  rcases HItc.out.row with ⟨hv, hl0⟩ | ⟨gr, cr, hv, hcr, hgr, hjr⟩
  · have hw0 : wl = 0 := by rw [← HWl.out, hl0]; rfl
    have hk0 : k' = 0 := by omega
    obtain rfl : aw = none := by injection hv
    obtain rfl : cw = 0 := by injection hv
    have HvH := Lib.hid hw0
    have HvT := Lib.hid hk0
    have HE0 := Lib.hid hl0
    clear hv hl0 hw0 hk0
    have hB0 := (Below.refl wc.heap.size wc).drew
    have BW := Lib.hid (show w.heap.size ≤ wc.drew.heap.size from (Hs.out.bel.trans ((HK.out.mono fun x _ hx => Hs.out.kK x hx).below_of Hs.out.bel.size)).size)
    have zd : z < wc.drew.heap.size := zlt'
    have RH := fun W (hW : Below wc.drew.heap.size wc.drew W) => Lib.hid (show Reads W ((.slice none 0 0)) 2 k' ((itemCells l).take (k' * 2)) from (by rw [HE0.out, HvT.out]; exact ⟨rfl, .inl ⟨rfl, rfl⟩⟩))
    have RT := fun W (hW : Below wc.drew.heap.size wc.drew W) => Lib.hid (show Reads W ((.slice none 0 0)) 2 (wl - k') ((itemCells l).drop (k' * 2)) from (by rw [HE0.out, HvT.out, HvH.out]; exact ⟨rfl, .inl ⟨rfl, rfl⟩⟩))
    have HW10 := Lib.hid (show wl ≤ 200 by omega)
    clear hB0
    refine wp_region_noPanic ?_
    refine wp_region_held_drew (S := fun W => Below wc.drew.heap.size wc.drew W) (by kernel_rfl) (Below.refl _ _) (fun hHeld => ?_)
    refine takeP (i := 0) (d := some 170) (v := (.slice none wl 0)) rfl rfl (by kernel_rfl) (by kernel_rfl) (by kernel_rfl) (fun _ _ _ h => h) (by rfl) (fun W hW => by rfl) hHeld ?_
    try simp only [Act.put, List.setIfInBounds_toArray, List.set_cons_zero, List.set_cons_succ]
    refine takeP (i := 1) (d := some 171) (v := (.pointer (some ⟨z, 2, none⟩))) rfl rfl (by kernel_rfl) (by kernel_rfl) (by kernel_rfl) (fun _ _ _ h => h) (by rfl) (fun W hW => by rfl) hHeld ?_
    try simp only [Act.put, List.setIfInBounds_toArray, List.set_cons_zero, List.set_cons_succ]
    refine takeP (i := 2) (d := some 172) (v := (.int .i64 (k' : Int))) rfl rfl (by kernel_rfl) (by kernel_rfl) (by kernel_rfl) (fun _ _ _ h => h) (by rfl) (fun W hW => by have q := (hW.cell (p := ⟨z, 2, none⟩) zlt').trans e2; go_simp) hHeld ?_
    try simp only [Act.put, List.setIfInBounds_toArray, List.set_cons_zero, List.set_cons_succ]
    refine takeP (i := 3) (d := some 173) (v := ((.slice none 0 0))) rfl rfl (by kernel_rfl) (by kernel_rfl) (by kernel_rfl) (fun _ _ _ h => h) (by rfl) (fun W hW => by have q0 := HvH.out; have q1 := HvT.out; go_simp) hHeld ?_
    try simp only [Act.put, List.setIfInBounds_toArray, List.set_cons_zero, List.set_cons_succ]
    refine takeP (i := 5) (d := some 175) (v := (.pointer (some ⟨z, 3, none⟩))) rfl rfl (by kernel_rfl) (by kernel_rfl) (by kernel_rfl) (fun _ _ _ h => h) (by rfl) (fun W hW => by rfl) hHeld ?_
    try simp only [Act.put, List.setIfInBounds_toArray, List.set_cons_zero, List.set_cons_succ]
    refine takeP (i := 6) (d := some 176) (v := (.agg #[.int .i64 xa, .int .i64 xb])) rfl rfl (by kernel_rfl) (by kernel_rfl) (by kernel_rfl) (fun _ _ _ h => h) (by rfl) (fun W hW => by have q := (hW.cell (p := ⟨z, 3, none⟩) zlt').trans e3; have q1 := (hW.cell (p := ⟨z, 4, none⟩) zlt').trans e4; go_simp) hHeld ?_
    try simp only [Act.put, List.setIfInBounds_toArray, List.set_cons_zero, List.set_cons_succ]
    refine takeP (i := 9) (d := some 179) (v := (.slice none wl 0)) rfl rfl (by kernel_rfl) (by kernel_rfl) (by kernel_rfl) (fun _ _ _ h => h) (by rfl) (fun W hW => by rfl) hHeld ?_
    try simp only [Act.put, List.setIfInBounds_toArray, List.set_cons_zero, List.set_cons_succ]
    refine takeP (i := 10) (d := some 180) (v := (.pointer (some ⟨z, 2, none⟩))) rfl rfl (by kernel_rfl) (by kernel_rfl) (by kernel_rfl) (fun _ _ _ h => h) (by rfl) (fun W hW => by rfl) hHeld ?_
    try simp only [Act.put, List.setIfInBounds_toArray, List.set_cons_zero, List.set_cons_succ]
    refine takeP (i := 11) (d := some 181) (v := (.int .i64 (k' : Int))) rfl rfl (by kernel_rfl) (by kernel_rfl) (by kernel_rfl) (fun _ _ _ h => h) (by rfl) (fun W hW => by have q := (hW.cell (p := ⟨z, 2, none⟩) zlt').trans e2; go_simp) hHeld ?_
    try simp only [Act.put, List.setIfInBounds_toArray, List.set_cons_zero, List.set_cons_succ]
    refine takeP (i := 12) (d := some 182) (v := ((.slice none 0 0))) rfl rfl (by kernel_rfl) (by kernel_rfl) (by kernel_rfl) (fun _ _ _ h => h) (by rfl) (fun W hW => by have q0 := HvH.out; have q1 := HvT.out; go_simp) hHeld ?_
    try simp only [Act.put, List.setIfInBounds_toArray, List.set_cons_zero, List.set_cons_succ]
    refine both (w0 := wc.drew) (d := 174) (e := 177) (i := 4) (j := 7) (m := 3) (L := fun x y => #[true, true, true, true, x, true, true, y, false, true, true, true, true, false, false])
      (P1 := fun v W => ∃ kN : Nat → Prop, Own W w.heap.size 30 2 kN v k' ((itemCells l).take (k' * 2)) ∧ ∀ x, kN x → wc.drew.heap.size ≤ x ∧ x < W.heap.size)
      (P2 := fun v W => ∃ g, v = .slice (some ⟨g, 0, none⟩) 1 1 ∧ wc.drew.heap.size ≤ g ∧ g < W.heap.size ∧ W.cell? ⟨g, 0, none⟩ = some (.int .i64 xa) ∧ W.cell? ⟨g, 1, none⟩ = some (.int .i64 xb))
      (by decide) (fun _ h => h) (by kernel_rfl) (by kernel_rfl) (by kernel_rfl) (fun _ => rfl) (fun _ => rfl) ?st1 ?st2 ?h1 ?h2 ?hfin
    case st1 =>
      rintro v W W' ⟨kN, ho, hn⟩ hb
      exact ⟨kN, ho.same fun b hb' _ => hb.block b hb', fun x hx => ⟨(hn x hx).1, Nat.lt_of_lt_of_le (hn x hx).2 hb.size⟩⟩
    case st2 =>
      rintro v W W' ⟨g, rfl, g1', g2', g3', g4'⟩ hb
      exact ⟨g, rfl, g1', Nat.lt_of_lt_of_le g2' hb.size, (hb.cell (p := ⟨g, 0, none⟩) g2').trans g3', (hb.cell (p := ⟨g, 1, none⟩) g2').trans g4'⟩
    case h1 =>
      intro a W K ha hB hK
      have q := (ha 173 (by decide) (by decide)).trans (show _ = (.slice none 0 0) from rfl)
      refine opAt rfl (by rfl) ?_
      refine wp_append_gen elem_item (Own.nil W w.heap.size 30 2 (fun _ => False)) (fun b hb => hb.elim) (Nat.le_trans BW.out hB.size) (RH W hB).out (items_one l (items_cell l) _).1 (by have := HW10.out; omega) (.const (.slice none 0 0)) (.tmp 173) rfl rfl q (fun v' w' K' hp => ?_)
      have hg := hp.grew
      refine hK v' w' ⟨K', by have := hp.own; simpa using this, fun x hx => ?_⟩ ⟨hg.below.os, hg.below.tape, hg.below.output, hg.size, fun b hb => hg.same b hb id⟩
      obtain ⟨h1, h2⟩ := hg.new x hx
      rcases h2 with h2 | h2
      · exact h2.elim
      · exact ⟨Nat.le_trans hB.size h2, h1⟩
    case h2 =>
      intro a W K ha hB hK
      have q := (ha 176 (by decide) (by decide)).trans (show _ = Value.agg #[.int .i64 xa, .int .i64 xb] from rfl)
      have q' : a.tmps[176]?.getD undef = Value.agg #[.int .i64 xa, .int .i64 xb] := by rw [← Array.getD_eq_getD_getElem?]; exact q
      refine opAt rfl (by rfl) ?_
      go_simp
      exact hK _ _ ⟨W.heap.size, rfl, hB.size, by simp, cell_new rfl rfl, cell_new rfl rfl⟩ ((Below.refl _ _).alloc (Nat.le_refl _) _)
    case hfin =>
      rintro v u W ⟨kN, ho, hn⟩ ⟨g, rfl, b1', b2', b3', b4'⟩ hB
      refine oneOp (i := 8) (by kernel_rfl) ?_
      refine opAt rfl (by rfl) ?_
      refine wp_append_gen elem_item ho (fun x hx => (hn x hx).2) (Nat.le_trans BW.out hB.size) (reads_box (size := 2) (x := [.int .i64 xa, .int .i64 xb]) b2' rfl (fun j u hu => ?_)) (fun u hu => ?_) (by have := HW10.out; omega) (.tmp 174) (.tmp 177) rfl rfl rfl (fun v1 W1 k1' hp1 => ?_)
      · match j, hu with
        | 0, hu => simp at hu; subst hu; exact b3'
        | 1, hu => simp at hu; subst hu; exact b4'
      · simp at hu
        rcases hu with rfl | rfl <;> rfl
      have hB1 := grew_below hB hp1.grew (fun x hx => (hn x hx).1)
      have hn1 := grew_fresh hB.size hp1.grew (fun x hx => (hn x hx).1)
      refine ⟨hB1, ?_⟩
      refine oneOp (i := 13) (by kernel_rfl) ?_
      refine opAt rfl (by rfl) ?_
      refine wp_append_gen elem_item hp1.own (fun x hx => (hn1 x hx).2) (Nat.le_trans BW.out hB1.size) (RT W1 hB1).out (items_one l (items_cell l) _).2 (by have := HW10.out; omega) (.tmp 178) (.tmp 182) rfl rfl rfl (fun v2 W2 k2' hp2 => ?_)
      have hB2 := grew_below hB1 hp2.grew (fun x hx => (hn1 x hx).1)
      have hn2 := grew_fresh hB1.size hp2.grew (fun x hx => (hn1 x hx).1)
      have HO2 := Lib.hid hp2.own
      have HB2 := Lib.hid hB2
      have HN2 := Lib.hid hn2
      clear hp1 hp2 hB1 hB2 hn1 hn2 ho hn hB b1' b2' b3' b4'
      refine ⟨HB2.out, ?_⟩
      try simp only [Act.put, List.setIfInBounds_toArray, List.set_cons_zero, List.set_cons_succ]
      refine wpAnyH_ready (rs := [14]) (by kernel_rfl) (by simp) ?_
      refine AllReadyH.cons rfl (fun K hK => ?_) AllReadyH.nil
      go_simp
      refine hK.out _ _ HB2.out (fun _ => ?_)
      clear hK K
      try simp only [List.setIfInBounds_toArray, List.set_cons_zero, List.set_cons_succ]
      refine wpAnyH_done (by kernel_rfl) ?_ _
      refine NoPanic.normal ?_
      go_wp2_with fail
      go_meet
      case rel =>
        have e1 := HE1.out
        subst e1
        refine ⟨rfl, ((Below.refl _ _).drew).trans HB2.out, .inr ⟨rfl, _, ?_, HN2.out⟩⟩
        have := HO2.out
        rw [items_ins, HL2.out] at this
        rw [show l2.length = k' + 1 + (wl - k') by rw [← HL2.out, insL_len' (by rw [HWl.out]; omega), HWl.out]; omega]
        exact this
  · rw [HWl.out] at hv hcr
    obtain rfl : aw = some ⟨gr, 0, none⟩ := by injection hv
    obtain rfl : cw = cr := by injection hv
    obtain ⟨oT, hoT⟩ : ∃ o : Option Addr, (if cw = k' then (some ⟨gr, 0, none⟩ : Option Addr) else some ⟨gr, k' * 2, none⟩) = o := ⟨_, rfl⟩
    have HvT := Lib.hid hoT
    have HvH := Lib.hid (trivial : True)
    have HRd := Lib.hid HItc.out.row.reads
    rw [HWl.out] at HRd
    have HCw := Lib.hid hcr
    have HGr := Lib.hid hgr
    have hk1 : ¬ cw < k' := by omega
    have hcI : (k' : Int) ≤ (cw : Int) := by omega
    clear hv hcr hgr hjr hoT
    have hB0 := (Below.refl wc.heap.size wc).drew
    have BW := Lib.hid (show w.heap.size ≤ wc.drew.heap.size from (Hs.out.bel.trans ((HK.out.mono fun x _ hx => Hs.out.kK x hx).below_of Hs.out.bel.size)).size)
    have zd : z < wc.drew.heap.size := zlt'
    have RH := fun W (hW : Below wc.drew.heap.size wc.drew W) => Lib.hid (show Reads W ((.slice (some ⟨gr, 0, none⟩) k' cw)) 2 k' ((itemCells l).take (k' * 2)) from (reads_head (HRd.out.kept (Kept.of_below (((Below.refl _ _).drew).trans hW) (fun b => b < wc.heap.size)) (fun b hb => by cases hb; exact HGr.out)) hkw _ (by have := HCw.out; omega)))
    have RT := fun W (hW : Below wc.drew.heap.size wc.drew W) => Lib.hid (show Reads W ((.slice oT (wl - k') (cw - k'))) 2 (wl - k') ((itemCells l).drop (k' * 2)) from (reads_tail (HRd.out.kept (Kept.of_below (((Below.refl _ _).drew).trans hW) (fun b => b < wc.heap.size)) (fun b hb => by cases hb; exact HGr.out)) hkw HCw.out HvT.out))
    have HW10 := Lib.hid (show wl ≤ 200 by omega)
    clear hB0
    refine wp_region_noPanic ?_
    refine wp_region_held_drew (S := fun W => Below wc.drew.heap.size wc.drew W) (by kernel_rfl) (Below.refl _ _) (fun hHeld => ?_)
    refine takeP (i := 0) (d := some 170) (v := (.slice (some ⟨gr, 0, none⟩) wl cw)) rfl rfl (by kernel_rfl) (by kernel_rfl) (by kernel_rfl) (fun _ _ _ h => h) (by rfl) (fun W hW => by rfl) hHeld ?_
    try simp only [Act.put, List.setIfInBounds_toArray, List.set_cons_zero, List.set_cons_succ]
    refine takeP (i := 1) (d := some 171) (v := (.pointer (some ⟨z, 2, none⟩))) rfl rfl (by kernel_rfl) (by kernel_rfl) (by kernel_rfl) (fun _ _ _ h => h) (by rfl) (fun W hW => by rfl) hHeld ?_
    try simp only [Act.put, List.setIfInBounds_toArray, List.set_cons_zero, List.set_cons_succ]
    refine takeP (i := 2) (d := some 172) (v := (.int .i64 (k' : Int))) rfl rfl (by kernel_rfl) (by kernel_rfl) (by kernel_rfl) (fun _ _ _ h => h) (by rfl) (fun W hW => by have q := (hW.cell (p := ⟨z, 2, none⟩) zlt').trans e2; go_simp) hHeld ?_
    try simp only [Act.put, List.setIfInBounds_toArray, List.set_cons_zero, List.set_cons_succ]
    refine takeP (i := 3) (d := some 173) (v := ((.slice (some ⟨gr, 0, none⟩) k' cw))) rfl rfl (by kernel_rfl) (by kernel_rfl) (by kernel_rfl) (fun _ _ _ h => h) (by rfl) (fun W hW => by have q0 := HvH.out; have q1 := HvT.out; go_simp) hHeld ?_
    try simp only [Act.put, List.setIfInBounds_toArray, List.set_cons_zero, List.set_cons_succ]
    refine takeP (i := 5) (d := some 175) (v := (.pointer (some ⟨z, 3, none⟩))) rfl rfl (by kernel_rfl) (by kernel_rfl) (by kernel_rfl) (fun _ _ _ h => h) (by rfl) (fun W hW => by rfl) hHeld ?_
    try simp only [Act.put, List.setIfInBounds_toArray, List.set_cons_zero, List.set_cons_succ]
    refine takeP (i := 6) (d := some 176) (v := (.agg #[.int .i64 xa, .int .i64 xb])) rfl rfl (by kernel_rfl) (by kernel_rfl) (by kernel_rfl) (fun _ _ _ h => h) (by rfl) (fun W hW => by have q := (hW.cell (p := ⟨z, 3, none⟩) zlt').trans e3; have q1 := (hW.cell (p := ⟨z, 4, none⟩) zlt').trans e4; go_simp) hHeld ?_
    try simp only [Act.put, List.setIfInBounds_toArray, List.set_cons_zero, List.set_cons_succ]
    refine takeP (i := 9) (d := some 179) (v := (.slice (some ⟨gr, 0, none⟩) wl cw)) rfl rfl (by kernel_rfl) (by kernel_rfl) (by kernel_rfl) (fun _ _ _ h => h) (by rfl) (fun W hW => by rfl) hHeld ?_
    try simp only [Act.put, List.setIfInBounds_toArray, List.set_cons_zero, List.set_cons_succ]
    refine takeP (i := 10) (d := some 180) (v := (.pointer (some ⟨z, 2, none⟩))) rfl rfl (by kernel_rfl) (by kernel_rfl) (by kernel_rfl) (fun _ _ _ h => h) (by rfl) (fun W hW => by rfl) hHeld ?_
    try simp only [Act.put, List.setIfInBounds_toArray, List.set_cons_zero, List.set_cons_succ]
    refine takeP (i := 11) (d := some 181) (v := (.int .i64 (k' : Int))) rfl rfl (by kernel_rfl) (by kernel_rfl) (by kernel_rfl) (fun _ _ _ h => h) (by rfl) (fun W hW => by have q := (hW.cell (p := ⟨z, 2, none⟩) zlt').trans e2; go_simp) hHeld ?_
    try simp only [Act.put, List.setIfInBounds_toArray, List.set_cons_zero, List.set_cons_succ]
    refine takeP (i := 12) (d := some 182) (v := ((.slice oT (wl - k') (cw - k')))) rfl rfl (by kernel_rfl) (by kernel_rfl) (by kernel_rfl) (fun _ _ _ h => h) (by rfl) (fun W hW => by have q0 := HvH.out; have q1 := HvT.out; go_simp) hHeld ?_
    try simp only [Act.put, List.setIfInBounds_toArray, List.set_cons_zero, List.set_cons_succ]
    refine both (w0 := wc.drew) (d := 174) (e := 177) (i := 4) (j := 7) (m := 3) (L := fun x y => #[true, true, true, true, x, true, true, y, false, true, true, true, true, false, false])
      (P1 := fun v W => ∃ kN : Nat → Prop, Own W w.heap.size 30 2 kN v k' ((itemCells l).take (k' * 2)) ∧ ∀ x, kN x → wc.drew.heap.size ≤ x ∧ x < W.heap.size)
      (P2 := fun v W => ∃ g, v = .slice (some ⟨g, 0, none⟩) 1 1 ∧ wc.drew.heap.size ≤ g ∧ g < W.heap.size ∧ W.cell? ⟨g, 0, none⟩ = some (.int .i64 xa) ∧ W.cell? ⟨g, 1, none⟩ = some (.int .i64 xb))
      (by decide) (fun _ h => h) (by kernel_rfl) (by kernel_rfl) (by kernel_rfl) (fun _ => rfl) (fun _ => rfl) ?st1 ?st2 ?h1 ?h2 ?hfin
    case st1 =>
      rintro v W W' ⟨kN, ho, hn⟩ hb
      exact ⟨kN, ho.same fun b hb' _ => hb.block b hb', fun x hx => ⟨(hn x hx).1, Nat.lt_of_lt_of_le (hn x hx).2 hb.size⟩⟩
    case st2 =>
      rintro v W W' ⟨g, rfl, g1', g2', g3', g4'⟩ hb
      exact ⟨g, rfl, g1', Nat.lt_of_lt_of_le g2' hb.size, (hb.cell (p := ⟨g, 0, none⟩) g2').trans g3', (hb.cell (p := ⟨g, 1, none⟩) g2').trans g4'⟩
    case h1 =>
      intro a W K ha hB hK
      have q := (ha 173 (by decide) (by decide)).trans (show _ = (.slice (some ⟨gr, 0, none⟩) k' cw) from rfl)
      refine opAt rfl (by rfl) ?_
      refine wp_append_gen elem_item (Own.nil W w.heap.size 30 2 (fun _ => False)) (fun b hb => hb.elim) (Nat.le_trans BW.out hB.size) (RH W hB).out (items_one l (items_cell l) _).1 (by have := HW10.out; omega) (.const (.slice none 0 0)) (.tmp 173) rfl rfl q (fun v' w' K' hp => ?_)
      have hg := hp.grew
      refine hK v' w' ⟨K', by have := hp.own; simpa using this, fun x hx => ?_⟩ ⟨hg.below.os, hg.below.tape, hg.below.output, hg.size, fun b hb => hg.same b hb id⟩
      obtain ⟨h1, h2⟩ := hg.new x hx
      rcases h2 with h2 | h2
      · exact h2.elim
      · exact ⟨Nat.le_trans hB.size h2, h1⟩
    case h2 =>
      intro a W K ha hB hK
      have q := (ha 176 (by decide) (by decide)).trans (show _ = Value.agg #[.int .i64 xa, .int .i64 xb] from rfl)
      have q' : a.tmps[176]?.getD undef = Value.agg #[.int .i64 xa, .int .i64 xb] := by rw [← Array.getD_eq_getD_getElem?]; exact q
      refine opAt rfl (by rfl) ?_
      go_simp
      exact hK _ _ ⟨W.heap.size, rfl, hB.size, by simp, cell_new rfl rfl, cell_new rfl rfl⟩ ((Below.refl _ _).alloc (Nat.le_refl _) _)
    case hfin =>
      rintro v u W ⟨kN, ho, hn⟩ ⟨g, rfl, b1', b2', b3', b4'⟩ hB
      refine oneOp (i := 8) (by kernel_rfl) ?_
      refine opAt rfl (by rfl) ?_
      refine wp_append_gen elem_item ho (fun x hx => (hn x hx).2) (Nat.le_trans BW.out hB.size) (reads_box (size := 2) (x := [.int .i64 xa, .int .i64 xb]) b2' rfl (fun j u hu => ?_)) (fun u hu => ?_) (by have := HW10.out; omega) (.tmp 174) (.tmp 177) rfl rfl rfl (fun v1 W1 k1' hp1 => ?_)
      · match j, hu with
        | 0, hu => simp at hu; subst hu; exact b3'
        | 1, hu => simp at hu; subst hu; exact b4'
      · simp at hu
        rcases hu with rfl | rfl <;> rfl
      have hB1 := grew_below hB hp1.grew (fun x hx => (hn x hx).1)
      have hn1 := grew_fresh hB.size hp1.grew (fun x hx => (hn x hx).1)
      refine ⟨hB1, ?_⟩
      refine oneOp (i := 13) (by kernel_rfl) ?_
      refine opAt rfl (by rfl) ?_
      refine wp_append_gen elem_item hp1.own (fun x hx => (hn1 x hx).2) (Nat.le_trans BW.out hB1.size) (RT W1 hB1).out (items_one l (items_cell l) _).2 (by have := HW10.out; omega) (.tmp 178) (.tmp 182) rfl rfl rfl (fun v2 W2 k2' hp2 => ?_)
      have hB2 := grew_below hB1 hp2.grew (fun x hx => (hn1 x hx).1)
      have hn2 := grew_fresh hB1.size hp2.grew (fun x hx => (hn1 x hx).1)
      have HO2 := Lib.hid hp2.own
      have HB2 := Lib.hid hB2
      have HN2 := Lib.hid hn2
      clear hp1 hp2 hB1 hB2 hn1 hn2 ho hn hB b1' b2' b3' b4'
      refine ⟨HB2.out, ?_⟩
      try simp only [Act.put, List.setIfInBounds_toArray, List.set_cons_zero, List.set_cons_succ]
      refine wpAnyH_ready (rs := [14]) (by kernel_rfl) (by simp) ?_
      refine AllReadyH.cons rfl (fun K hK => ?_) AllReadyH.nil
      go_simp
      refine hK.out _ _ HB2.out (fun _ => ?_)
      clear hK K
      try simp only [List.setIfInBounds_toArray, List.set_cons_zero, List.set_cons_succ]
      refine wpAnyH_done (by kernel_rfl) ?_ _
      refine NoPanic.normal ?_
      go_wp2_with fail
      go_meet
      case rel =>
        have e1 := HE1.out
        subst e1
        refine ⟨rfl, ((Below.refl _ _).drew).trans HB2.out, .inr ⟨rfl, _, ?_, HN2.out⟩⟩
        have := HO2.out
        rw [items_ins, HL2.out] at this
        rw [show l2.length = k' + 1 + (wl - k') by rw [← HL2.out, insL_len' (by rw [HWl.out]; omega), HWl.out]; omega]
        exact this
end Go.Proofs.Ytcdmebjggdhhdaa.listPlays
