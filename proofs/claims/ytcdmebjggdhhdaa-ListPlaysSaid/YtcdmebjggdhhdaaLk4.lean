/- ListPlays: a list is dropped, and taken out. -/
import Derived.Test.YtcdmebjggdhhdaaLp5
import Derived.Test.YtcdmebjggdhhdaaGpP
namespace Go.Proofs.Ytcdmebjggdhhdaa.listPlays
open Go.ChangeShapes Go.WideShapes Go.ChangeAt Go.RowKit
set_option linter.unusedVariables false
set_option maxRecDepth 100000 in
set_option maxHeartbeats 16000000 in
theorem dropped_is : stage3.2.2.2.1 := by
  intro m row w HA vc hl h3 h3' N w0 _ h1 h2 w1 w2 p ha _ _ wr u4 u9 u10 u11 u12 u13 u14 u15 u16 u17 u18 u19 u20 u21 u22 u51 u52 u53 u54 u55 u56 u57 u58 u59 u60 u61 u62 u63 u64 u65 u66 u67 u68 u69 u70 u71 u72 u73 u74 u75 u76 u77 u78 u79 u80 u81 u82 u83 u84 u85 u86 u87 u88 u89 u90 u91 u92 u93 u94 u95 u96 u97 u98 u99 u100 u101 u102 u103 u104 u105 u106 u107 u108 u109 u110 u111 u112 u113 u114 u115 u116 u117 u118 u119 u120 u121 u122 u123 u124 u125 u126 u127 u128 u129 u130 u131 u132 u133 u134 u135 u136 u137 u138 u139 u140 u141 u142 u143 u144 u145 u146 u147 u148 u149 u150 u151 u152 u153 u154 u155 u156 u157 u158 u159 u160 u161 u162 u163 u164 u165 u166 u167 u168 u169 u170 u171 u172 u173 u174 u175 u176 u177 u178 u179 u180 u181 u182 u183 u184 u185 u186 u187 u188 u189 u190 u191 u192 u193 u194 u195 u196 u197 u198 u199 u200 u201 u202 u203 u204 u205 u206 u207 u208 u209 u210 u211 u212 u213 u214 u215 u216 u217 u218 u219 u220 u221 u222 u223 u224 u225 u226 u227 u228 u229 u230 u231 u232 u233 u234 u235 u236 u237 u238 u239 u240 u241 u242 u243 u244 u245 u246 u247 u248 u249 u250 u251 u252 u253 u254 u255 u256 u257 u258 u259 u260 u261 u262 u263 u264 u265 u266 u267 u268 u269 u270 u271 u272 u273 u274 u275 u276 u277 u278 u279 u280 u281 u282 u283 u284 u285 u286 u287 u288 u289 u290 u291 u292 u293 u294 u295 u296 u297 u298 u299 u300 u301 u302 u303 u304 u305 u306 u307 u308 u309 u310 u311 u312 u313 u314 u315 u316 u317 u318 u319 u320 u321 u322 u323 u324 u325 u326 u327 u328 u329 u330 u331 u332 u333 u334 u335 u336 u337 u338 u339 u340 u341 u342 u343 u344 u345 u346 u347 u348 u349 u350 u351 u352 u353 u354 u355 u356 u357 u358 u359 u360 u361 u362 u363 u364 u365 u366 u367 u368 u369 u370 u371 u372 u373 u374 u375 u376 u377 u378 u379 u380 u381 u382 u383 u384 u385 u386 u387 u388 u389 u390 u391 u392 u393 u394 u395 u396 u397 u398 u399 u400 u401 u402 u403 u404 u405 u406 u407 u408 u409 u410 u411 u412 u413 j j1 ba off hba K k1 k2 s R ws V q HL c1 c2 rw wrw ii wii xa wxa xb wxb Hx hmc Hlt _ _ jm hq1 hq2 k Hkq K1 W1 z zK zn1 zn2 g1 g2 Hs0 _ _ aw cw wl wl1 h HH HC1 HC2 kI qI wlI nq ub ubI pc pc0 pcI mm mm1 mm0 Hpc Hub Hmm wc u51 u52 u53 u54 u55 u56 u57 u58 u59 u60 u61 u62 u63 u64 u65 u66 u67 u68 u69 u70 u71 u72 u73 u74 u75 u76 u77 u78 u79 u80 u81 u82 u83 u84 u85 u86 u87 u88 u89 u90 u93 u94 u95 u96 u98 u99 u100 u101 u102 u103 u104 u105 u106 u107 u109 u110 u111 u112 u113 u114 u115 u116 u117 u118 u119 u121 u122 u123 u124 u125 u126 u127 u128 u129 u130 u131 u132 u133 u134 u135 u136 u137 u139 u140 u141 u142 u143 u144 u145 u146 u147 u148 u149 u150 u151 u152 u153 u155 u156 u157 u158 u159 u160 u161 u162 u163 u164 u165 u166 u167 u168 u169 u170 u171 u172 u173 u174 u175 u176 u177 u178 u179 u180 u181 u182 u183 u185 u186 u187 u188 u189 u190 u191 u193 u194 u195 u196 u197 u198 u199 u200 u201 u202 u203 u204 u205 u206 u207 u208 u209 u210 u211 u212 u213 u214 u215 u216 u217 u218 u219 u220 u221 u222 u223 u224 u225 u226 u227 u228 u229 u230 u231 u232 u233 u234 u235 u236 u237 u238 u239 u240 u241 u242 u243 u244 u245 u246 u247 u248 u249 u250 u251 u252 u253 u254 u255 u256 u257 u258 u259 u260 u261 u262 u263 u264 u265 u266 u267 u268 u269 u270 u271 u272 u273 u274 u275 u276 u277 u278 u279 u280 u281 u282 u283 u284 u285 u286 u287 u288 u289 u290 u291 u292 u293 u294 u295 u296 u297 u298 u299 u300 u301 u302 u304 u305 u306 u307 u308 u309 u310 u311 u312 u313 u314 u315 u316 u317 u318 u319 u320 u321 u322 u323 u324 u325 u326 u327 u328 u329 u330 u331 u332 u333 u334 u335 u337 u338 u339 u340 u341 u343 u344 u345 u346 u347 u348 u349 u350 u351 u352 u353 u354 u355 u356 u357 u358 u359 u360 u361 u362 u363 u364 u365 u366 u367 u368 u369 u370 u371 u372 u373 u374 u375 u376 u377 u378 u379 u380 u381 u382 u383 u384 u385 u386 u387 u388 u389 u390 u391 u392 u393 u394 u395 u396 u397 u398 u399 u400 u401 u402 u403 u404 u405 u406 u407 u408 u409 u410 u411 u412 u413 Hs d2 d3 d4 zlt bi HBi _ _ _ _ _ l HIt HLh HRg HF HWl HLl G HRl HMb wkd d0 _ q1' q2' q3'
  clear HLh HF G HRl HMb Hpc Hub Hmm pc0 pcI mm0 mm1 ubI HLl HIt HRg HBi d3 d4 Hs0
  by_cases h0 : h = 0
  · have e0 : (h == 0) = true := by simpa using h0
    have e1 : (h != 0) = false := by simpa using h0
    have D0 := Hs.out.undrop Hkq.out (HH.out.trans h0)
    obtain ⟨w5, hw5⟩ : ∃ w5, w5 = wc := ⟨_, rfl⟩
    subst hw5
    have D := Lib.hid D0
    have C5 := Lib.hid d2
    have z5 := Lib.hid zlt
    clear h0 D0 HH
    go_upto_region 50 with fail
    clear e0 e1 d0 d2 zlt Hs
    have hw1 : IntKind.i64.wrap ((k : Int) + 1) = (k : Int) + 1 := IntWalk.i64_in _ (by omega)
    have hk1 : ¬ c1 < k := by have := HC1.out; omega
    have hk2 : ¬ c2 < k := by have := HC2.out; omega
    have hk3 : (0 : Int) ≤ (k : Int) + 1 := by omega
    have hk4 : (k : Int) + 1 ≤ (q : Int) := by omega
    obtain ⟨oa, hoa⟩ : ∃ o : Option Addr, (if c1 = k + 1 then some ⟨g1, 0, none⟩ else some ⟨g1, k + 1, none⟩) = o := ⟨_, rfl⟩
    have Hoa := Lib.hid hoa
    clear hoa
    obtain ⟨ob, hob⟩ : ∃ o : Option Addr, (if c2 = k + 1 then some ⟨g2, 0, none⟩ else some ⟨g2, k + 1, none⟩) = o := ⟨_, rfl⟩
    have Hob := Lib.hid hob
    clear hob
    have Dd := Lib.hid (D.out.below ((Below.refl w5.heap.size w5).drew))
    have P0 := Lib.hid (pair_self (w0 := w5.drew) (B := w.heap.size) (k1 := fun _ => False) (k2 := fun _ => False) (fun b hb => hb.elim) (fun b hb => hb.elim) (fun b hb => hb.elim))
    have W0 := Lib.hid (show w.heap.size ≤ w5.drew.heap.size from D.out.bel.size)
    have hS := fun W (hW : ∃ k' k'', Pair2 w5.drew w.heap.size (fun _ => False) (fun _ => False) k' k'' W) => show Below w5.drew.heap.size w5.drew W from by obtain ⟨k', k'', hP⟩ := hW; exact ⟨hP.below.os, hP.below.tape, hP.below.output, hP.size, fun b hb => hP.same b hb id id⟩
    have HS := Lib.hid hS
    have HS1 := fun W hW => Lib.hid (show Lst W w.heap.size k1 (.slice (some ⟨g1, 0, none⟩) q c1) R from Dd.out.ids.kept (Kept.of_below (HS.out W hW) _))
    have HS2 := fun W hW => Lib.hid (show Reads W (.slice (some ⟨g2, 0, none⟩) q c2) 1 q V from by have := (Dd.out.want.kept (Kept.of_below (HS.out W hW) _)).reads; rw [HL.out] at this; exact this)
    have HkL := Lib.hid (show k < q by omega)
    have HV := Lib.hid (show ∀ u ∈ V, u.oneCell' = true from fun u hu => by
      obtain ⟨i, hi, rfl⟩ := List.getElem_of_mem hu
      obtain ⟨x, y, e⟩ := (D.out.items i (by rw [← D.out.lenV]; exact hi)).items.val
      rw [List.getD_eq_getElem?_getD, List.getElem?_eq_getElem hi] at e
      have e' : V[i] = _ := e
      rw [e']
      rfl)
    clear hS
    refine wp_region_noPanic ?_
    refine wp_region_held_drew (S := fun W => ∃ k' k'', Pair2 w5.drew w.heap.size (fun _ => False) (fun _ => False) k' k'' W) (by kernel_rfl) ⟨_, _, P0.out⟩ (fun hHeld => ?_)
    refine takeP (i := 0) (d := some 313) (v := (.slice (some ⟨g1, 0, none⟩) q c1)) rfl rfl (by kernel_rfl) (by kernel_rfl) (by kernel_rfl) (fun _ _ _ h => h) (by rfl) (fun W hW => by rfl) hHeld ?_
    try simp only [Act.put, List.setIfInBounds_toArray, List.set_cons_zero, List.set_cons_succ]
    refine takeP (i := 1) (d := some 314) (v := (.int .i64 (k : Int))) rfl rfl (by kernel_rfl) (by kernel_rfl) (by kernel_rfl) (fun _ _ _ h => h) (by rfl) (fun W hW => by rfl) hHeld ?_
    try simp only [Act.put, List.setIfInBounds_toArray, List.set_cons_zero, List.set_cons_succ]
    refine takeP (i := 2) (d := some 315) (v := (.slice (some ⟨g1, 0, none⟩) k c1)) rfl rfl (by kernel_rfl) (by kernel_rfl) (by kernel_rfl) (fun _ _ _ h => h) (by rfl) (fun W hW => by go_simp) hHeld ?_
    try simp only [Act.put, List.setIfInBounds_toArray, List.set_cons_zero, List.set_cons_succ]
    refine takeP (i := 4) (d := some 317) (v := (.slice (some ⟨g1, 0, none⟩) q c1)) rfl rfl (by kernel_rfl) (by kernel_rfl) (by kernel_rfl) (fun _ _ _ h => h) (by rfl) (fun W hW => by rfl) hHeld ?_
    try simp only [Act.put, List.setIfInBounds_toArray, List.set_cons_zero, List.set_cons_succ]
    refine takeP (i := 5) (d := some 318) (v := (.int .i64 (k : Int))) rfl rfl (by kernel_rfl) (by kernel_rfl) (by kernel_rfl) (fun _ _ _ h => h) (by rfl) (fun W hW => by rfl) hHeld ?_
    try simp only [Act.put, List.setIfInBounds_toArray, List.set_cons_zero, List.set_cons_succ]
    refine takeP (i := 6) (d := some 319) (v := (.int .i64 ((k : Int) + 1))) rfl rfl (by kernel_rfl) (by kernel_rfl) (by kernel_rfl) (fun _ _ _ h => h) (by rfl) (fun W hW => by go_simp) hHeld ?_
    try simp only [Act.put, List.setIfInBounds_toArray, List.set_cons_zero, List.set_cons_succ]
    refine takeP (i := 7) (d := some 320) (v := (.slice oa (q - (k + 1)) (c1 - (k + 1)))) rfl rfl (by kernel_rfl) (by kernel_rfl) (by kernel_rfl) (fun _ _ _ h => h) (by rfl) (fun W hW => by have q0 := Hoa.out; go_simp) hHeld ?_
    try simp only [Act.put, List.setIfInBounds_toArray, List.set_cons_zero, List.set_cons_succ]
    refine takeP (i := 9) (d := some 322) (v := (.slice (some ⟨g2, 0, none⟩) q c2)) rfl rfl (by kernel_rfl) (by kernel_rfl) (by kernel_rfl) (fun _ _ _ h => h) (by rfl) (fun W hW => by rfl) hHeld ?_
    try simp only [Act.put, List.setIfInBounds_toArray, List.set_cons_zero, List.set_cons_succ]
    refine takeP (i := 10) (d := some 323) (v := (.int .i64 (k : Int))) rfl rfl (by kernel_rfl) (by kernel_rfl) (by kernel_rfl) (fun _ _ _ h => h) (by rfl) (fun W hW => by rfl) hHeld ?_
    try simp only [Act.put, List.setIfInBounds_toArray, List.set_cons_zero, List.set_cons_succ]
    refine takeP (i := 11) (d := some 324) (v := (.slice (some ⟨g2, 0, none⟩) k c2)) rfl rfl (by kernel_rfl) (by kernel_rfl) (by kernel_rfl) (fun _ _ _ h => h) (by rfl) (fun W hW => by go_simp) hHeld ?_
    try simp only [Act.put, List.setIfInBounds_toArray, List.set_cons_zero, List.set_cons_succ]
    refine takeP (i := 13) (d := some 326) (v := (.slice (some ⟨g2, 0, none⟩) q c2)) rfl rfl (by kernel_rfl) (by kernel_rfl) (by kernel_rfl) (fun _ _ _ h => h) (by rfl) (fun W hW => by rfl) hHeld ?_
    try simp only [Act.put, List.setIfInBounds_toArray, List.set_cons_zero, List.set_cons_succ]
    refine takeP (i := 14) (d := some 327) (v := (.int .i64 (k : Int))) rfl rfl (by kernel_rfl) (by kernel_rfl) (by kernel_rfl) (fun _ _ _ h => h) (by rfl) (fun W hW => by rfl) hHeld ?_
    try simp only [Act.put, List.setIfInBounds_toArray, List.set_cons_zero, List.set_cons_succ]
    refine takeP (i := 15) (d := some 328) (v := (.int .i64 ((k : Int) + 1))) rfl rfl (by kernel_rfl) (by kernel_rfl) (by kernel_rfl) (fun _ _ _ h => h) (by rfl) (fun W hW => by go_simp) hHeld ?_
    try simp only [Act.put, List.setIfInBounds_toArray, List.set_cons_zero, List.set_cons_succ]
    refine takeP (i := 16) (d := some 329) (v := (.slice ob (q - (k + 1)) (c2 - (k + 1)))) rfl rfl (by kernel_rfl) (by kernel_rfl) (by kernel_rfl) (fun _ _ _ h => h) (by rfl) (fun W hW => by have q0 := Hob.out; go_simp) hHeld ?_
    try simp only [Act.put, List.setIfInBounds_toArray, List.set_cons_zero, List.set_cons_succ]
    refine chains (w0 := w5.drew) (B := w.heap.size) (j1 := fun _ => False) (j2 := fun _ => False) (d1 := 316) (d2 := 321) (d3 := 325) (d4 := 330) (i1 := 3) (i2 := 8) (i3 := 12) (i4 := 17) (m := 2) (L := fun b1 b2 b3 b4 => #[true, true, true, b1, true, true, true, true, b2, true, true, true, b3, true, true, true, true, b4, false, false]) (R := fun b1 b2 b3 b4 => (if b1 then [] else [3]) ++ (if b1 && !b2 then [8] else []) ++ (if b2 && !b3 then [12] else []) ++ (if b3 && !b4 then [17] else []) ++ (if b1 && b2 && b3 && b4 then [18] else [])) (P1 := Join w.heap.size (R.take k) (R.drop (k + 1))) (P2 := JoinG w.heap.size 42 1 k (V.take k) (q - (k + 1)) (V.drop (k + 1)))
      W0.out (fun k' k'' W h => ⟨k', k'', h⟩) (by decide) (by decide) (by decide) (by decide) (by decide) (by decide) (show 316 < 452 by decide) (show 325 < 452 by decide) ?hr ?hR (fun _ _ _ => rfl) (fun _ _ _ => rfl) (fun _ _ _ => rfl) (fun _ _ _ => rfl) Join.same JoinG.same ?h1 ?h2 ?h3 ?h4 ?hfin trivial trivial (fun b hb => hb.elim) (fun b hb => hb.elim) (fun b hb => hb.elim)
    case hr =>
      intro b1 b2 b3 b4 h21 h43
      cases b1 <;> cases b2 <;> cases b3 <;> cases b4 <;> first | exact absurd (h21 rfl) (by decide) | exact absurd (h43 rfl) (by decide) | kernel_rfl
    case hR =>
      intro b1 b2 b3 b4 h21 h43 h
      cases b1 <;> cases b2 <;> cases b3 <;> cases b4 <;> first | exact absurd (h21 rfl) (by decide) | exact absurd (h43 rfl) (by decide) | exact absurd h (by decide) | (refine ⟨by decide, fun i hi => ?_⟩; simp at hi ⊢; omega)
    case h1 =>
      intro a W k' K ha hS hB hlt hp hK
      have q := (ha 315 (by decide) (by decide) (by decide) (by decide)).trans (show _ = Value.slice (some ⟨g1, 0, none⟩) k c1 from rfl)
      refine opAt rfl (by rfl) ?_
      exact wp_append_any (xs := []) (Lst.nil _ _ _) hlt hB (part_one (HS1 W hS).out HL.out HkL.out _ (by have := HC1.out; omega)) (by have := HkL.out; have := HL.out; simp; omega) (.const (.slice none 0 0)) (.tmp 315) rfl rfl q (fun v' w' K' hp => hK v' w' K' (by have := hp.lst; exact this) hp.grew)
    case h2 =>
      intro a W k' v K ha hv hS hB hlt hp hK
      have q := (ha 320 (by decide) (by decide) (by decide) (by decide)).trans (show _ = Value.slice oa (q - (k + 1)) (c1 - (k + 1)) from rfl)
      refine opAt rfl (by rfl) ?_
      exact wp_append_any hp hlt hB (by rw [← Hoa.out]; exact part_two (HS1 W hS).out HL.out HkL.out (by have := HC1.out; omega)) (by have := HkL.out; have := HL.out; simp; omega) (.tmp 316) (.tmp 320) rfl hv q (fun v' w' K' hp => hK v' w' K' hp.lst hp.grew)
    case h3 =>
      intro a W k' K ha hS hB hlt hp hK
      have q := (ha 324 (by decide) (by decide) (by decide) (by decide)).trans (show _ = Value.slice (some ⟨g2, 0, none⟩) k c2 from rfl)
      refine opAt rfl (by rfl) ?_
      refine wp_append_gen elem_row (Own.nil W w.heap.size 42 1 k') hlt hB (reads_head (HS2 W hS).out (Nat.le_of_lt HkL.out) _ (by have := HC2.out; have := HkL.out; omega)) (fun u hu => HV.out u (List.mem_of_mem_take hu)) (by have := HkL.out; omega) (.const (.slice none 0 0)) (.tmp 324) rfl rfl q (fun v' w' K' hp => hK v' w' K' ?_ hp.grew)
      have := hp.own
      rw [Nat.mul_one, Nat.zero_add] at this
      exact this
    case h4 =>
      intro a W k' v K ha hv hS hB hlt hp hK
      have q := (ha 329 (by decide) (by decide) (by decide) (by decide)).trans (show _ = Value.slice ob (q - (k + 1)) (c2 - (k + 1)) from rfl)
      refine opAt rfl (by rfl) ?_
      refine wp_append_gen elem_row hp hlt hB (reads_tail (HS2 W hS).out (by have := HkL.out; omega) HC2.out (by rw [Nat.mul_one]; exact Hob.out)) (fun u hu => HV.out u (List.mem_of_mem_drop hu)) (by have := HkL.out; omega) (.tmp 325) (.tmp 329) rfl hv q (fun v' w' K' hp => hK v' w' K' ?_ hp.grew)
      have := hp.own
      rw [Nat.mul_one] at this
      exact this
    case hfin =>
      intro r1 r2 r3 r4 m1 m2 W p1 p2 hP
      have PP := Lib.hid hP
      have PA := Lib.hid p1
      have PB := Lib.hid p2
      have hsA := Lst.slice p1
      have hsB := Own.slice p2
      rw [show (R.take k ++ R.drop (k + 1)).length = q - 1 by have := HL.out; simp; omega] at hsA
      obtain ⟨x1, y1, rfl⟩ := hsA
      clear hP p1 p2 hsB
      try simp only [Act.put, List.setIfInBounds_toArray, List.set_cons_zero, List.set_cons_succ]
      refine wpAnyH_ready (rs := [18]) (by kernel_rfl) (by simp) ?_
      refine AllReadyH.cons rfl (fun K hK => ?_) AllReadyH.nil
      go_simp
      refine hK.out _ _ ⟨_, _, PP.out⟩ (fun _ => ?_)
      clear hK K
      try simp only [List.setIfInBounds_toArray, List.set_cons_zero, List.set_cons_succ]
      refine wpAnyH_ready (rs := [19]) (by kernel_rfl) (by simp) ?_
      refine AllReadyH.cons rfl (fun K hK => ?_) AllReadyH.nil
      go_simp
      refine hK.out _ _ ⟨_, _, PP.out⟩ (fun _ => ?_)
      clear hK K
      try simp only [List.setIfInBounds_toArray, List.set_cons_zero, List.set_cons_succ]
      refine wpAnyH_done (by kernel_rfl) ?_ _
      refine NoPanic.normal ?_
      have hbw := HS.out W ⟨_, _, PP.out⟩
      have BWw := Lib.hid hbw
      have CW := Lib.hid ((hbw.cell (p := ⟨z, 2, none⟩) z5.out).trans C5.out)
      have zW := Lib.hid (Nat.lt_of_lt_of_le z5.out hbw.size)
      clear hbw
      by_cases q1 : q = 1
      · have t0 : q - 1 = 0 := by omega
        rw [t0]
        have LL := Lib.hid (Dd.out.last (HL.out.trans q1) Hkq.out BWw.out)
        have CE := Lib.hid (((((Below.refl W.heap.size W).alloc (Nat.le_refl _) (.cells #[.int .i64 0] 3)).alloc (by simp) (.cells #[.slice none 0 0] 42)).cell (p := ⟨z, 2, none⟩) zW.out).trans CW.out)
        clear t0 q1
        go_wp2_with fail
        go_meet
        case rel => exact ⟨LL.out, CE.out⟩
      · have t0 : ¬ (q - 1 = 0) := by omega
        have t1 : ((q - 1 : Nat) : Int) ≠ 0 := by omega
        have t2 : (((q - 1 : Nat) : Int) == 0) = false := by simpa using t1
        have LL := Lib.hid (Dd.out.join Hkq.out (by rw [HL.out]; omega) PP.out PA.out (by rw [HL.out]; exact PB.out))
        clear q1
        go_wp2_with fail
        go_meet
        case rel => exact ⟨at_ LL.out, CW.out⟩
  · have e0 : (h == 0) = false := by simpa using h0
    have e1 : (h != 0) = true := by simpa using h0
    have hc := Hs.out.candrop Hkq.out (by rw [HH.out]; exact h0)
    have NX := Lib.hid (fun W' ha hk => Hs.out.drop (W' := W') Hkq.out ha hk)
    rw [HH.out] at hc NX
    have HDr := Lib.hid (drop_is h hc Hs.out.ars (snd_fit (Hs.out.good (by have := Hlt.out; omega))))
    clear h0 hc HH
    go_wp2_with fail
    refine HDr.out.mono ?_
    rintro e w5 ⟨rfl, ha, hk⟩
    have D := Lib.hid (NX.out _ ha hk)
    have C5 := Lib.hid ((hk.cell (o := 2) zlt zK).trans d2)
    have z5 := Lib.hid (Nat.lt_of_lt_of_le zlt hk.size)
    clear ha hk HDr NX
    go_upto_region 50 with fail
    clear e0 e1 d0 d2 zlt Hs
    have hw1 : IntKind.i64.wrap ((k : Int) + 1) = (k : Int) + 1 := IntWalk.i64_in _ (by omega)
    have hk1 : ¬ c1 < k := by have := HC1.out; omega
    have hk2 : ¬ c2 < k := by have := HC2.out; omega
    have hk3 : (0 : Int) ≤ (k : Int) + 1 := by omega
    have hk4 : (k : Int) + 1 ≤ (q : Int) := by omega
    obtain ⟨oa, hoa⟩ : ∃ o : Option Addr, (if c1 = k + 1 then some ⟨g1, 0, none⟩ else some ⟨g1, k + 1, none⟩) = o := ⟨_, rfl⟩
    have Hoa := Lib.hid hoa
    clear hoa
    obtain ⟨ob, hob⟩ : ∃ o : Option Addr, (if c2 = k + 1 then some ⟨g2, 0, none⟩ else some ⟨g2, k + 1, none⟩) = o := ⟨_, rfl⟩
    have Hob := Lib.hid hob
    clear hob
    have Dd := Lib.hid (D.out.below ((Below.refl w5.heap.size w5).drew))
    have P0 := Lib.hid (pair_self (w0 := w5.drew) (B := w.heap.size) (k1 := fun _ => False) (k2 := fun _ => False) (fun b hb => hb.elim) (fun b hb => hb.elim) (fun b hb => hb.elim))
    have W0 := Lib.hid (show w.heap.size ≤ w5.drew.heap.size from D.out.bel.size)
    have hS := fun W (hW : ∃ k' k'', Pair2 w5.drew w.heap.size (fun _ => False) (fun _ => False) k' k'' W) => show Below w5.drew.heap.size w5.drew W from by obtain ⟨k', k'', hP⟩ := hW; exact ⟨hP.below.os, hP.below.tape, hP.below.output, hP.size, fun b hb => hP.same b hb id id⟩
    have HS := Lib.hid hS
    have HS1 := fun W hW => Lib.hid (show Lst W w.heap.size k1 (.slice (some ⟨g1, 0, none⟩) q c1) R from Dd.out.ids.kept (Kept.of_below (HS.out W hW) _))
    have HS2 := fun W hW => Lib.hid (show Reads W (.slice (some ⟨g2, 0, none⟩) q c2) 1 q V from by have := (Dd.out.want.kept (Kept.of_below (HS.out W hW) _)).reads; rw [HL.out] at this; exact this)
    have HkL := Lib.hid (show k < q by omega)
    have HV := Lib.hid (show ∀ u ∈ V, u.oneCell' = true from fun u hu => by
      obtain ⟨i, hi, rfl⟩ := List.getElem_of_mem hu
      obtain ⟨x, y, e⟩ := (D.out.items i (by rw [← D.out.lenV]; exact hi)).items.val
      rw [List.getD_eq_getElem?_getD, List.getElem?_eq_getElem hi] at e
      have e' : V[i] = _ := e
      rw [e']
      rfl)
    clear hS
    refine wp_region_noPanic ?_
    refine wp_region_held_drew (S := fun W => ∃ k' k'', Pair2 w5.drew w.heap.size (fun _ => False) (fun _ => False) k' k'' W) (by kernel_rfl) ⟨_, _, P0.out⟩ (fun hHeld => ?_)
    refine takeP (i := 0) (d := some 313) (v := (.slice (some ⟨g1, 0, none⟩) q c1)) rfl rfl (by kernel_rfl) (by kernel_rfl) (by kernel_rfl) (fun _ _ _ h => h) (by rfl) (fun W hW => by rfl) hHeld ?_
    try simp only [Act.put, List.setIfInBounds_toArray, List.set_cons_zero, List.set_cons_succ]
    refine takeP (i := 1) (d := some 314) (v := (.int .i64 (k : Int))) rfl rfl (by kernel_rfl) (by kernel_rfl) (by kernel_rfl) (fun _ _ _ h => h) (by rfl) (fun W hW => by rfl) hHeld ?_
    try simp only [Act.put, List.setIfInBounds_toArray, List.set_cons_zero, List.set_cons_succ]
    refine takeP (i := 2) (d := some 315) (v := (.slice (some ⟨g1, 0, none⟩) k c1)) rfl rfl (by kernel_rfl) (by kernel_rfl) (by kernel_rfl) (fun _ _ _ h => h) (by rfl) (fun W hW => by go_simp) hHeld ?_
    try simp only [Act.put, List.setIfInBounds_toArray, List.set_cons_zero, List.set_cons_succ]
    refine takeP (i := 4) (d := some 317) (v := (.slice (some ⟨g1, 0, none⟩) q c1)) rfl rfl (by kernel_rfl) (by kernel_rfl) (by kernel_rfl) (fun _ _ _ h => h) (by rfl) (fun W hW => by rfl) hHeld ?_
    try simp only [Act.put, List.setIfInBounds_toArray, List.set_cons_zero, List.set_cons_succ]
    refine takeP (i := 5) (d := some 318) (v := (.int .i64 (k : Int))) rfl rfl (by kernel_rfl) (by kernel_rfl) (by kernel_rfl) (fun _ _ _ h => h) (by rfl) (fun W hW => by rfl) hHeld ?_
    try simp only [Act.put, List.setIfInBounds_toArray, List.set_cons_zero, List.set_cons_succ]
    refine takeP (i := 6) (d := some 319) (v := (.int .i64 ((k : Int) + 1))) rfl rfl (by kernel_rfl) (by kernel_rfl) (by kernel_rfl) (fun _ _ _ h => h) (by rfl) (fun W hW => by go_simp) hHeld ?_
    try simp only [Act.put, List.setIfInBounds_toArray, List.set_cons_zero, List.set_cons_succ]
    refine takeP (i := 7) (d := some 320) (v := (.slice oa (q - (k + 1)) (c1 - (k + 1)))) rfl rfl (by kernel_rfl) (by kernel_rfl) (by kernel_rfl) (fun _ _ _ h => h) (by rfl) (fun W hW => by have q0 := Hoa.out; go_simp) hHeld ?_
    try simp only [Act.put, List.setIfInBounds_toArray, List.set_cons_zero, List.set_cons_succ]
    refine takeP (i := 9) (d := some 322) (v := (.slice (some ⟨g2, 0, none⟩) q c2)) rfl rfl (by kernel_rfl) (by kernel_rfl) (by kernel_rfl) (fun _ _ _ h => h) (by rfl) (fun W hW => by rfl) hHeld ?_
    try simp only [Act.put, List.setIfInBounds_toArray, List.set_cons_zero, List.set_cons_succ]
    refine takeP (i := 10) (d := some 323) (v := (.int .i64 (k : Int))) rfl rfl (by kernel_rfl) (by kernel_rfl) (by kernel_rfl) (fun _ _ _ h => h) (by rfl) (fun W hW => by rfl) hHeld ?_
    try simp only [Act.put, List.setIfInBounds_toArray, List.set_cons_zero, List.set_cons_succ]
    refine takeP (i := 11) (d := some 324) (v := (.slice (some ⟨g2, 0, none⟩) k c2)) rfl rfl (by kernel_rfl) (by kernel_rfl) (by kernel_rfl) (fun _ _ _ h => h) (by rfl) (fun W hW => by go_simp) hHeld ?_
    try simp only [Act.put, List.setIfInBounds_toArray, List.set_cons_zero, List.set_cons_succ]
    refine takeP (i := 13) (d := some 326) (v := (.slice (some ⟨g2, 0, none⟩) q c2)) rfl rfl (by kernel_rfl) (by kernel_rfl) (by kernel_rfl) (fun _ _ _ h => h) (by rfl) (fun W hW => by rfl) hHeld ?_
    try simp only [Act.put, List.setIfInBounds_toArray, List.set_cons_zero, List.set_cons_succ]
    refine takeP (i := 14) (d := some 327) (v := (.int .i64 (k : Int))) rfl rfl (by kernel_rfl) (by kernel_rfl) (by kernel_rfl) (fun _ _ _ h => h) (by rfl) (fun W hW => by rfl) hHeld ?_
    try simp only [Act.put, List.setIfInBounds_toArray, List.set_cons_zero, List.set_cons_succ]
    refine takeP (i := 15) (d := some 328) (v := (.int .i64 ((k : Int) + 1))) rfl rfl (by kernel_rfl) (by kernel_rfl) (by kernel_rfl) (fun _ _ _ h => h) (by rfl) (fun W hW => by go_simp) hHeld ?_
    try simp only [Act.put, List.setIfInBounds_toArray, List.set_cons_zero, List.set_cons_succ]
    refine takeP (i := 16) (d := some 329) (v := (.slice ob (q - (k + 1)) (c2 - (k + 1)))) rfl rfl (by kernel_rfl) (by kernel_rfl) (by kernel_rfl) (fun _ _ _ h => h) (by rfl) (fun W hW => by have q0 := Hob.out; go_simp) hHeld ?_
    try simp only [Act.put, List.setIfInBounds_toArray, List.set_cons_zero, List.set_cons_succ]
    refine chains (w0 := w5.drew) (B := w.heap.size) (j1 := fun _ => False) (j2 := fun _ => False) (d1 := 316) (d2 := 321) (d3 := 325) (d4 := 330) (i1 := 3) (i2 := 8) (i3 := 12) (i4 := 17) (m := 2) (L := fun b1 b2 b3 b4 => #[true, true, true, b1, true, true, true, true, b2, true, true, true, b3, true, true, true, true, b4, false, false]) (R := fun b1 b2 b3 b4 => (if b1 then [] else [3]) ++ (if b1 && !b2 then [8] else []) ++ (if b2 && !b3 then [12] else []) ++ (if b3 && !b4 then [17] else []) ++ (if b1 && b2 && b3 && b4 then [18] else [])) (P1 := Join w.heap.size (R.take k) (R.drop (k + 1))) (P2 := JoinG w.heap.size 42 1 k (V.take k) (q - (k + 1)) (V.drop (k + 1)))
      W0.out (fun k' k'' W h => ⟨k', k'', h⟩) (by decide) (by decide) (by decide) (by decide) (by decide) (by decide) (show 316 < 452 by decide) (show 325 < 452 by decide) ?hr ?hR (fun _ _ _ => rfl) (fun _ _ _ => rfl) (fun _ _ _ => rfl) (fun _ _ _ => rfl) Join.same JoinG.same ?h1 ?h2 ?h3 ?h4 ?hfin trivial trivial (fun b hb => hb.elim) (fun b hb => hb.elim) (fun b hb => hb.elim)
    case hr =>
      intro b1 b2 b3 b4 h21 h43
      cases b1 <;> cases b2 <;> cases b3 <;> cases b4 <;> first | exact absurd (h21 rfl) (by decide) | exact absurd (h43 rfl) (by decide) | kernel_rfl
    case hR =>
      intro b1 b2 b3 b4 h21 h43 h
      cases b1 <;> cases b2 <;> cases b3 <;> cases b4 <;> first | exact absurd (h21 rfl) (by decide) | exact absurd (h43 rfl) (by decide) | exact absurd h (by decide) | (refine ⟨by decide, fun i hi => ?_⟩; simp at hi ⊢; omega)
    case h1 =>
      intro a W k' K ha hS hB hlt hp hK
      have q := (ha 315 (by decide) (by decide) (by decide) (by decide)).trans (show _ = Value.slice (some ⟨g1, 0, none⟩) k c1 from rfl)
      refine opAt rfl (by rfl) ?_
      exact wp_append_any (xs := []) (Lst.nil _ _ _) hlt hB (part_one (HS1 W hS).out HL.out HkL.out _ (by have := HC1.out; omega)) (by have := HkL.out; have := HL.out; simp; omega) (.const (.slice none 0 0)) (.tmp 315) rfl rfl q (fun v' w' K' hp => hK v' w' K' (by have := hp.lst; exact this) hp.grew)
    case h2 =>
      intro a W k' v K ha hv hS hB hlt hp hK
      have q := (ha 320 (by decide) (by decide) (by decide) (by decide)).trans (show _ = Value.slice oa (q - (k + 1)) (c1 - (k + 1)) from rfl)
      refine opAt rfl (by rfl) ?_
      exact wp_append_any hp hlt hB (by rw [← Hoa.out]; exact part_two (HS1 W hS).out HL.out HkL.out (by have := HC1.out; omega)) (by have := HkL.out; have := HL.out; simp; omega) (.tmp 316) (.tmp 320) rfl hv q (fun v' w' K' hp => hK v' w' K' hp.lst hp.grew)
    case h3 =>
      intro a W k' K ha hS hB hlt hp hK
      have q := (ha 324 (by decide) (by decide) (by decide) (by decide)).trans (show _ = Value.slice (some ⟨g2, 0, none⟩) k c2 from rfl)
      refine opAt rfl (by rfl) ?_
      refine wp_append_gen elem_row (Own.nil W w.heap.size 42 1 k') hlt hB (reads_head (HS2 W hS).out (Nat.le_of_lt HkL.out) _ (by have := HC2.out; have := HkL.out; omega)) (fun u hu => HV.out u (List.mem_of_mem_take hu)) (by have := HkL.out; omega) (.const (.slice none 0 0)) (.tmp 324) rfl rfl q (fun v' w' K' hp => hK v' w' K' ?_ hp.grew)
      have := hp.own
      rw [Nat.mul_one, Nat.zero_add] at this
      exact this
    case h4 =>
      intro a W k' v K ha hv hS hB hlt hp hK
      have q := (ha 329 (by decide) (by decide) (by decide) (by decide)).trans (show _ = Value.slice ob (q - (k + 1)) (c2 - (k + 1)) from rfl)
      refine opAt rfl (by rfl) ?_
      refine wp_append_gen elem_row hp hlt hB (reads_tail (HS2 W hS).out (by have := HkL.out; omega) HC2.out (by rw [Nat.mul_one]; exact Hob.out)) (fun u hu => HV.out u (List.mem_of_mem_drop hu)) (by have := HkL.out; omega) (.tmp 325) (.tmp 329) rfl hv q (fun v' w' K' hp => hK v' w' K' ?_ hp.grew)
      have := hp.own
      rw [Nat.mul_one] at this
      exact this
    case hfin =>
      intro r1 r2 r3 r4 m1 m2 W p1 p2 hP
      have PP := Lib.hid hP
      have PA := Lib.hid p1
      have PB := Lib.hid p2
      have hsA := Lst.slice p1
      have hsB := Own.slice p2
      rw [show (R.take k ++ R.drop (k + 1)).length = q - 1 by have := HL.out; simp; omega] at hsA
      obtain ⟨x1, y1, rfl⟩ := hsA
      clear hP p1 p2 hsB
      try simp only [Act.put, List.setIfInBounds_toArray, List.set_cons_zero, List.set_cons_succ]
      refine wpAnyH_ready (rs := [18]) (by kernel_rfl) (by simp) ?_
      refine AllReadyH.cons rfl (fun K hK => ?_) AllReadyH.nil
      go_simp
      refine hK.out _ _ ⟨_, _, PP.out⟩ (fun _ => ?_)
      clear hK K
      try simp only [List.setIfInBounds_toArray, List.set_cons_zero, List.set_cons_succ]
      refine wpAnyH_ready (rs := [19]) (by kernel_rfl) (by simp) ?_
      refine AllReadyH.cons rfl (fun K hK => ?_) AllReadyH.nil
      go_simp
      refine hK.out _ _ ⟨_, _, PP.out⟩ (fun _ => ?_)
      clear hK K
      try simp only [List.setIfInBounds_toArray, List.set_cons_zero, List.set_cons_succ]
      refine wpAnyH_done (by kernel_rfl) ?_ _
      refine NoPanic.normal ?_
      have hbw := HS.out W ⟨_, _, PP.out⟩
      have BWw := Lib.hid hbw
      have CW := Lib.hid ((hbw.cell (p := ⟨z, 2, none⟩) z5.out).trans C5.out)
      have zW := Lib.hid (Nat.lt_of_lt_of_le z5.out hbw.size)
      clear hbw
      by_cases q1 : q = 1
      · have t0 : q - 1 = 0 := by omega
        rw [t0]
        have LL := Lib.hid (Dd.out.last (HL.out.trans q1) Hkq.out BWw.out)
        have CE := Lib.hid (((((Below.refl W.heap.size W).alloc (Nat.le_refl _) (.cells #[.int .i64 0] 3)).alloc (by simp) (.cells #[.slice none 0 0] 42)).cell (p := ⟨z, 2, none⟩) zW.out).trans CW.out)
        clear t0 q1
        go_wp2_with fail
        go_meet
        case rel => exact ⟨LL.out, CE.out⟩
      · have t0 : ¬ (q - 1 = 0) := by omega
        have t1 : ((q - 1 : Nat) : Int) ≠ 0 := by omega
        have t2 : (((q - 1 : Nat) : Int) == 0) = false := by simpa using t1
        have LL := Lib.hid (Dd.out.join Hkq.out (by rw [HL.out]; omega) PP.out PA.out (by rw [HL.out]; exact PB.out))
        clear q1
        go_wp2_with fail
        go_meet
        case rel => exact ⟨at_ LL.out, CW.out⟩
end Go.Proofs.Ytcdmebjggdhhdaa.listPlays
