/- ListPlays: behind Insert: it was refused; there was no room; it is done. -/
import Derived.Test.YtcdmebjggdhhdaaLk1
namespace Go.Proofs.Ytcdmebjggdhhdaa.listPlays
open Go.ChangeShapes Go.WideShapes Go.ChangeAt Go.RowKit
set_option linter.unusedVariables false
set_option maxRecDepth 100000 in
set_option maxHeartbeats 16000000 in
theorem then1 : kind1.2.1 := by
  intro m row w HA vc hl h3 h3' N w0 _ h1 h2 w1 w2 p ha _ _ wr u4 u9 u10 u11 u12 u13 u14 u15 u16 u17 u18 u19 u20 u21 u22 u51 u52 u53 u54 u55 u56 u57 u58 u59 u60 u61 u62 u63 u64 u65 u66 u67 u68 u69 u70 u71 u72 u73 u74 u75 u76 u77 u78 u79 u80 u81 u82 u83 u84 u85 u86 u87 u88 u89 u90 u91 u92 u93 u94 u95 u96 u97 u98 u99 u100 u101 u102 u103 u104 u105 u106 u107 u108 u109 u110 u111 u112 u113 u114 u115 u116 u117 u118 u119 u120 u121 u122 u123 u124 u125 u126 u127 u128 u129 u130 u131 u132 u133 u134 u135 u136 u137 u138 u139 u140 u141 u142 u143 u144 u145 u146 u147 u148 u149 u150 u151 u152 u153 u154 u155 u156 u157 u158 u159 u160 u161 u162 u163 u164 u165 u166 u167 u168 u169 u170 u171 u172 u173 u174 u175 u176 u177 u178 u179 u180 u181 u182 u183 u184 u185 u186 u187 u188 u189 u190 u191 u192 u193 u194 u195 u196 u197 u198 u199 u200 u201 u202 u203 u204 u205 u206 u207 u208 u209 u210 u211 u212 u213 u214 u215 u216 u217 u218 u219 u220 u221 u222 u223 u224 u225 u226 u227 u228 u229 u230 u231 u232 u233 u234 u235 u236 u237 u238 u239 u240 u241 u242 u243 u244 u245 u246 u247 u248 u249 u250 u251 u252 u253 u254 u255 u256 u257 u258 u259 u260 u261 u262 u263 u264 u265 u266 u267 u268 u269 u270 u271 u272 u273 u274 u275 u276 u277 u278 u279 u280 u281 u282 u283 u284 u285 u286 u287 u288 u289 u290 u291 u292 u293 u294 u295 u296 u297 u298 u299 u300 u301 u302 u303 u304 u305 u306 u307 u308 u309 u310 u311 u312 u313 u314 u315 u316 u317 u318 u319 u320 u321 u322 u323 u324 u325 u326 u327 u328 u329 u330 u331 u332 u333 u334 u335 u336 u337 u338 u339 u340 u341 u342 u343 u344 u345 u346 u347 u348 u349 u350 u351 u352 u353 u354 u355 u356 u357 u358 u359 u360 u361 u362 u363 u364 u365 u366 u367 u368 u369 u370 u371 u372 u373 u374 u375 u376 u377 u378 u379 u380 u381 u382 u383 u384 u385 u386 u387 u388 u389 u390 u391 u392 u393 u394 u395 u396 u397 u398 u399 u400 u401 u402 u403 u404 u405 u406 u407 u408 u409 u410 u411 u412 u413 j j1 ba off hba K k1 k2 s R ws V q HL c1 c2 rw wrw ii wii xa wxa xb wxb Hx hmc Hlt _ _ jm hq1 hq2 k Hkq K1 W1 z zK zn1 zn2 g1 g2 Hs0 _ _ aw cw wl wl1 h HH HC1 HC2 kI qI wlI nq ub ubI pc pc0 pcI mm mm1 mm0 Hpc Hub Hmm wa u51 u52 u53 u54 u55 u56 u57 u58 u59 u60 u61 u62 u63 u64 u65 u66 u67 u68 u69 u70 u71 u72 u73 u74 u75 u76 u77 u78 u79 u80 u81 u82 u83 u84 u85 u86 u87 u88 u89 u90 u93 u94 u95 u96 u98 u99 u100 u101 u102 u103 u104 u105 u106 u107 u109 u110 u111 u112 u113 u114 u115 u116 u117 u118 u119 u121 u122 u123 u124 u125 u126 u127 u128 u129 u130 u131 u132 u133 u134 u135 u136 u137 u139 u140 u141 u142 u143 u144 u145 u146 u147 u148 u149 u150 u151 u152 u153 u155 u156 u157 u158 u159 u160 u161 u162 u163 u164 u165 u166 u167 u168 u169 u170 u171 u172 u173 u174 u175 u176 u177 u178 u179 u180 u181 u182 u183 u185 u186 u187 u188 u189 u190 u191 u193 u194 u195 u196 u197 u198 u199 u200 u201 u202 u203 u204 u205 u206 u207 u208 u209 u210 u211 u212 u213 u214 u215 u216 u217 u218 u219 u220 u221 u222 u223 u224 u225 u226 u227 u228 u229 u230 u231 u232 u233 u234 u235 u236 u237 u238 u239 u240 u241 u242 u243 u244 u245 u246 u247 u248 u249 u250 u251 u252 u253 u254 u255 u256 u257 u258 u259 u260 u261 u262 u263 u264 u265 u266 u267 u268 u269 u270 u271 u272 u273 u274 u275 u276 u277 u278 u279 u280 u281 u282 u283 u284 u285 u286 u287 u288 u289 u290 u291 u292 u293 u294 u295 u296 u297 u298 u299 u300 u301 u302 u304 u305 u306 u307 u308 u309 u310 u311 u312 u313 u314 u315 u316 u317 u318 u319 u320 u321 u322 u323 u324 u325 u326 u327 u328 u329 u330 u331 u332 u333 u334 u335 u337 u338 u339 u340 u341 u343 u344 u345 u346 u347 u348 u349 u350 u351 u352 u353 u354 u355 u356 u357 u358 u359 u360 u361 u362 u363 u364 u365 u366 u367 u368 u369 u370 u371 u372 u373 u374 u375 u376 u377 u378 u379 u380 u381 u382 u383 u384 u385 u386 u387 u388 u389 u390 u391 u392 u393 u394 u395 u396 u397 u398 u399 u400 u401 u402 u403 u404 u405 u406 u407 u408 u409 u410 u411 u412 u413 Hs bi HBi _ _ _ _ _ l HIt HLh HRg HF HWl HLl G HRl HMb wkd _ f0 l2 HF0 HL2 HN wb u15 u16 u51 u52 u53 u54 u55 u56 u57 u58 u59 u60 u61 u62 u63 u64 u65 u66 u67 u68 u69 u70 u71 u72 u73 u74 u75 u76 u77 u78 u79 u80 u81 u82 u83 u84 u85 u86 u87 u88 u89 u90 u93 u94 u95 u96 u98 u99 u100 u101 u102 u103 u104 u105 u106 u107 u108 u109 u110 u111 u112 u113 u114 u115 u116 u117 u118 u119 u120 u121 u122 u123 u124 u125 u126 u127 u128 u129 u130 u131 u132 u133 u134 u135 u136 u137 u139 u140 u141 u142 u143 u144 u145 u146 u147 u148 u149 u150 u151 u152 u153 u155 u156 u157 u158 u159 u160 u161 u162 u163 u164 u165 u166 u167 u168 u169 u170 u171 u172 u173 u174 u175 u176 u177 u178 u179 u180 u181 u182 u183 u185 u186 u187 u188 u189 u190 u191 u193 u194 u195 u196 u197 u198 u199 u200 u201 u202 u203 u204 u205 u206 u207 u208 u209 u210 u211 u212 u213 u214 u215 u216 u217 u218 u219 u220 u221 u222 u223 u224 u225 u226 u227 u228 u229 u230 u231 u232 u233 u234 u235 u236 u237 u238 u239 u240 u241 u242 u243 u244 u245 u246 u247 u248 u249 u250 u251 u252 u253 u254 u255 u256 u257 u258 u259 u260 u261 u262 u263 u264 u265 u266 u267 u268 u269 u270 u271 u272 u273 u274 u275 u276 u277 u278 u279 u280 u281 u282 u283 u284 u285 u286 u287 u288 u289 u290 u291 u292 u293 u294 u295 u296 u297 u298 u299 u300 u301 u302 u304 u305 u306 u307 u308 u309 u310 u311 u312 u313 u314 u315 u316 u317 u318 u319 u320 u321 u322 u323 u324 u325 u326 u327 u328 u329 u330 u331 u332 u333 u334 u335 u337 u338 u339 u340 u341 u343 u344 u345 u346 u347 u348 u349 u350 u351 u352 u353 u354 u355 u356 u357 u358 u359 u360 u361 u362 u363 u364 u365 u366 u367 u368 u369 u370 u371 u372 u373 u374 u375 u376 u377 u378 u379 u380 u381 u382 u383 u384 u385 u386 u387 u388 u389 u390 u391 u392 u393 u394 u395 u396 u397 u398 u399 u400 u401 u402 u403 u404 u405 u406 u407 u408 u409 u410 u411 u412 u413 zlt' e0 e2 e3 e4 HK HO _ _ wc u17 u18 u51 u52 u53 u54 u55 u56 u57 u58 u59 u60 u61 u62 u63 u64 u65 u66 u67 u68 u69 u70 u71 u72 u73 u74 u75 u76 u77 u78 u79 u80 u81 u82 u83 u84 u85 u86 u87 u88 u89 u90 u93 u94 u95 u96 u98 u99 u100 u101 u102 u103 u104 u105 u106 u107 u109 u110 u111 u112 u113 u114 u115 u116 u117 u118 u119 u121 u122 u123 u124 u125 u126 u127 u128 u129 u130 u131 u132 u133 u134 u135 u136 u137 u138 u139 u140 u141 u142 u143 u144 u145 u146 u147 u148 u149 u150 u151 u152 u153 u154 u155 u156 u157 u158 u159 u160 u161 u162 u163 u164 u165 u166 u167 u168 u169 u170 u171 u172 u173 u174 u175 u176 u177 u178 u179 u180 u181 u182 u183 u184 u185 u186 u187 u188 u189 u190 u191 u192 u193 u194 u195 u196 u197 u198 u199 u200 u201 u202 u203 u204 u205 u206 u207 u208 u209 u210 u211 u212 u213 u214 u215 u216 u217 u218 u219 u220 u221 u222 u223 u224 u225 u226 u227 u228 u229 u230 u231 u232 u233 u234 u235 u236 u237 u238 u239 u240 u241 u242 u243 u244 u245 u246 u247 u248 u249 u250 u251 u252 u253 u254 u255 u256 u257 u258 u259 u260 u261 u262 u263 u264 u265 u266 u267 u268 u269 u270 u271 u272 u273 u274 u275 u276 u277 u278 u279 u280 u281 u282 u283 u284 u285 u286 u287 u288 u289 u290 u291 u292 u293 u294 u295 u296 u297 u298 u299 u300 u301 u302 u304 u305 u306 u307 u308 u309 u310 u311 u312 u313 u314 u315 u316 u317 u318 u319 u320 u321 u322 u323 u324 u325 u326 u327 u328 u329 u330 u331 u332 u333 u334 u335 u337 u338 u339 u340 u341 u343 u344 u345 u346 u347 u348 u349 u350 u351 u352 u353 u354 u355 u356 u357 u358 u359 u360 u361 u362 u363 u364 u365 u366 u367 u368 u369 u370 u371 u372 u373 u374 u375 u376 u377 u378 u379 u380 u381 u382 u383 u384 u385 u386 u387 u388 u389 u390 u391 u392 u393 u394 u395 u396 u397 u398 u399 u400 u401 u402 u403 u404 u405 u406 u407 u408 u409 u410 u411 u412 u413 hcut
  obtain ⟨rfl, hb3, hnow⟩ := hcut
  have hj := Hlt.out
  have zlt3 := Lib.hid (Nat.lt_of_lt_of_le zlt' hb3.size)
  have C3 := Lib.hid ((hb3.cell (p := ⟨z, 2, none⟩) zlt').trans e2)
  clear e0 e2 e3 e4 zlt' HLl HIt HLh HRg HF HBi HH HF0 HL2 kI
  rcases HO.out with ⟨f1, f2, rfl, rfl, ha⟩ | ⟨f1, q', e1, s1, rfl, rfl, c, ha⟩
  · have hnw : u18 = .slice none 0 0 := by
      rcases hnow with ⟨_, e⟩ | ⟨e, _⟩
      · exact e
      · exact absurd e f1
    subst hnw
    clear hnow
    have T2 := Lib.hid ((Hs.out.kept ha HK.out).below hb3)
    have HMd := Lib.hid (made_is Hmm.out T2.out.ars)
    have HW := fun W => Lib.hid (wide_is wl (by omega) W)
    have HU := Lib.hid (used_is Hub.out T2.out.ars)
    have HPn := Lib.hid (pending_is Hpc.out T2.out.ars)
    have b2 : (f0 == 2) = false := by simpa using f2
    have b0 : (f0 == 0) = false := by simpa using f1
    have b0' : (f0 != 0) = true := by simpa using f1
    have hmx : max (wl : Int) 0 = (wl : Int) := by omega
    have hblI : ((bl wl : Nat) : Int) ≤ 10 := by have := bl_small (m := wl) (by omega); omega
    have hdle : decide ((0 : Int) ≤ 4 + 4 * ((bl wl : Nat) : Int)) = true := by simp; omega
    generalize bl wl = bw at *
    clear f1 f2 ha hb3 HO HK HN hj
    as_aux_lemma =>
      go_wp2_with fail
      refine HMd.out.mono ?_
      rintro e w5 ⟨rfl, rfl⟩
      go_wp2_with fail
      refine (HW _).out.mono ?_
      rintro e w5 ⟨rfl, rfl⟩
      go_wp2_with fail
      refine HU.out.mono ?_
      rintro e w5 ⟨rfl, rfl⟩
      go_wp2_with fail
      refine HPn.out.mono ?_
      rintro e w5 ⟨rfl, rfl⟩
      go_wp2_with fail
      go_meet
      case rel => exact ⟨at_ T2.out.next, C3.out⟩
  · obtain ⟨kN, ho, hn⟩ : ∃ kN : Nat → Prop, Own wc w.heap.size 30 2 kN u18 l2.length (itemCells l2) ∧ ∀ x, kN x → wb.heap.size ≤ x ∧ x < wc.heap.size := by
      rcases hnow with ⟨e, _⟩ | ⟨_, x⟩
      · exact absurd f1 e
      · exact x
    clear hnow
    obtain ⟨rgl2, lenl2⟩ := HN.out f1
    subst f1
    obtain ⟨kk, hkk1, hkk2, _⟩ := c.went.made
    obtain ⟨m2, hm2⟩ : ∃ m2 : Int, s1.made = m2 := ⟨_, rfl⟩
    obtain ⟨n2, hn2⟩ : ∃ n2, l2.length = n2 := ⟨_, rfl⟩
    obtain ⟨mx, hmx0⟩ : ∃ mx : Nat, max wl n2 = mx := ⟨_, rfl⟩
    have hmx : max (wl : Int) (n2 : Int) = (mx : Int) := by omega
    have mxl : mx ≤ 101 := by omega
    have hbx : bl wl ≤ bl mx := bl_mono (by omega)
    have hlc : lc wl = 4 + 4 * bl wl := by unfold lc; rw [if_pos (by omega)]
    have hd2 : m2 - mm ≤ 4 + 4 * ((bl mx : Nat) : Int) := by have := Hmm.out; omega
    have hblI : ((bl mx : Nat) : Int) ≤ 10 := by have := bl_small (m := mx) (by omega); omega
    have hm2b : m2 ≤ 200000 := by omega
    have hm20 : 0 ≤ m2 := by have := Hmm.out; omega
    have hdle : decide (m2 - mm ≤ 4 + 4 * ((bl mx : Nat) : Int)) = true := by simpa using hd2
    have hdlt : ¬ (4 + 4 * ((bl mx : Nat) : Int) < m2 - mm) := by omega
    have hdl2 : decide (4 + 4 * ((bl mx : Nat) : Int) < m2 - mm) = false := by simpa using hd2
    have n2I : (n2 : Int) ≤ 101 := by omega
    obtain ⟨av, cv, hvv⟩ := ho.slice
    rw [hn2] at hvv
    have HW := fun W => Lib.hid (wide_is mx (by omega) W)
    by_cases e0 : e1 = 0
    · subst e0
      have hm := Hs.out.mid c ha HK.out hb3 ⟨rgl2, by omega⟩ ho hn
      have hnil := hm.lq.nil_iff
      have HMd := Lib.hid (made_is hm2 hm.ars)
      have sn := hm.gd.snd (by have := hm.le; simp; omega) (by have := hm.mb; omega)
      have HDp := Lib.hid (deep_list (w := wc) (K := fun x => K1 x ∨ kN x) (p := p) (by omega) (snd_fit sn) hm.lq hm.ars)
      have HW2 := fun W => Lib.hid (wide_is n2 (by omega) W)
      have HR := fun W (ha : Ars W (fun x => K1 x ∨ kN x) p s1) => Lib.hid (reach_most (n := 2 * n2) (ha.alloc (.cells #[.int .i64 q'] 3)) (snd_fit sn) (ints_one W q') (by show 1 ≤ 100; omega) (fun zs x y => by have := hm.lq.reach x y; omega))
      rw [hn2] at HDp
      obtain ⟨bz, hz1⟩ : ∃ bz, (q' == 0) = bz := ⟨_, rfl⟩
      have hz2 : ((n2 : Int) == 0) = bz := by
        rw [← hz1]
        by_cases qz : q' = 0
        · have := hnil.1 qz
          rw [this] at hn2
          simp at hn2
          subst hn2 qz
          rfl
        · have : n2 ≠ 0 := fun e => qz (hnil.2 (List.length_eq_zero_iff.1 (by omega)))
          have a1 : (q' == 0) = false := by simpa using qz
          have a2 : ((n2 : Int) == 0) = false := by simpa using this
          rw [a1, a2]
      have hb2I : ((bl n2 : Nat) : Int) ≤ 10 := by have := bl_small (m := n2) (by omega); omega
      have M := Lib.hid hm
      have HN2 := Lib.hid hn2
      subst hvv
      clear hm hnil sn c ha HO HK hb3 ho hn hj hkk1 hkk2 hmx0 hbx hlc hm2 hn2 rgl2 lenl2
      generalize bl mx = bw at *
      generalize bl n2 = bn at *
      as_aux_lemma =>
        go_wp2_with fail
        refine HMd.out.mono ?_
        rintro e w5 ⟨rfl, rfl⟩
        go_wp2_with fail
        refine (HW _).out.mono ?_
        rintro e w5 ⟨rfl, rfl⟩
        go_wp2_with fail
        refine HDp.out.mono ?_
        rintro e w6 ⟨⟨d, hd, rfl⟩, hb⟩
        have M6 := Lib.hid (M.out.below hb)
        have dI : (d : Int) ≤ 20 := by omega
        have dle : decide ((d : Int) ≤ 4 + 2 * (bn : Int)) = true := by simp; omega
        have dlt : ¬ (4 + 2 * (bn : Int) < (d : Int)) := by omega
        have dl2 : decide (4 + 2 * (bn : Int) < (d : Int)) = false := by simp; omega
        have C6 := Lib.hid ((hb.cell (p := ⟨z, 2, none⟩) zlt3.out).trans C3.out)
        have z6 := Lib.hid (Nat.lt_of_lt_of_le zlt3.out hb.size)
        clear hb hd HDp M C3 zlt3
        go_wp2_with fail
        refine (HW2 _).out.mono ?_
        rintro e w7 ⟨rfl, rfl⟩
        go_wp2_with fail
        refine (HR _ M6.out.ars).out.mono ?_
        rintro e w8 ⟨⟨ra, rc, rm, hrm, rfl⟩, hb⟩
        have hb8 := ((Below.refl w6.heap.size w6).alloc (Nat.le_refl _) (.cells #[.int .i64 q'] 3)).trans (hb.mono (by simp))
        have M8 := Lib.hid (M6.out.below hb8)
        have C8 := Lib.hid ((hb8.cell (p := ⟨z, 2, none⟩) z6.out).trans C6.out)
        have z8 := Lib.hid (Nat.lt_of_lt_of_le z6.out hb8.size)
        have rmI : (rm : Int) ≤ 300 := by omega
        have rme : decide ((rm : Int) ≤ 2 * (n2 : Int)) = true := by simp; omega
        have rml : ¬ (2 * (n2 : Int) < (rm : Int)) := by omega
        have rm2 : decide (2 * (n2 : Int) < (rm : Int)) = false := by simp; omega
        clear hb hb8 hrm HR HW2 M6 C6 z6
        obtain ⟨aL, aLt, aB, aI⟩ := M8.out.app1
        have AL := Lib.hid aL
        have ALt := Lib.hid aLt
        have AB := Lib.hid aB
        have AI := Lib.hid aI
        have AN := Lib.hid (show R.length + [q'].length ≤ 1000000000 by rw [HL.out]; simp; omega)
        clear aL aLt aB aI
        go_wp2_with (at_builtin; refine wpList_append_any AL.out ALt.out AB.out AI.out AN.out rfl (.tmp 295) (.tmp 297) rfl rfl rfl ?_)
        intro vA w9 kA hp1
        obtain ⟨bL, bLt, bB, bR⟩ := M8.out.app2 hp1
        have P1 := Lib.hid hp1
        have BL := Lib.hid bL
        have BLt := Lib.hid bLt
        have BB := Lib.hid bB
        have BR := Lib.hid bR
        have BN := Lib.hid (show R.length + 1 ≤ 1000000000 by rw [HL.out]; omega)
        have BO := Lib.hid (show ∀ u ∈ [Value.slice av n2 cv], u.oneCell' = true from fun u hu => by simp at hu; subst hu; rfl)
        clear bL bLt bB bR hp1 AL ALt AB AI AN
        go_wp2_with (at_builtin; refine wpList_append_gen elem_row BL.out BLt.out BB.out BR.out BO.out BN.out rfl (.tmp 299) (.tmp 301) rfl rfl rfl ?_)
        intro vB w10 kB hp2
        obtain ⟨hPS, hz⟩ := M8.out.done P1.out hp2
        have E := Lib.hid hPS
        have C10 := Lib.hid ((World.cell?_of_block (a := ⟨z, 2, none⟩) (hz z z8.out zn1 zn2)).trans C8.out)
        clear hPS hz hp2 BL BLt BB BR BN BO P1
        go_wp2_with fail
        go_meet
        case rel => exact ⟨E.out, C10.out⟩
    · obtain ⟨rfl, rfl, hT⟩ := Hs.out.full c e0 ha HK.out
      have T2 := Lib.hid (hT.below hb3)
      have HMd := Lib.hid (made_is hm2 T2.out.ars)
      have sn := T2.out.good (by omega)
      have HWk := Lib.hid (work_is (B := 100000000000) 1073741824 (s := s1) (s' := (s1.work 1073741824).1) (n := (s1.work 1073741824).2) rfl rfl T2.out.ars sn (by decide) (by decide))
      have HR100 := Lib.hid (show R.length ≤ 100 by rw [HL.out]; omega)
      have HJ1 := Lib.hid (show j + 1 ≤ 1000 by omega)
      subst hvv
      clear hT sn e0 c ha HO HK hb3 ho hn hj hkk1 hkk2 hmx0 hbx hlc hm2 hn2 rgl2 lenl2
      generalize bl mx = bw at *
      as_aux_lemma =>
        go_wp2_with fail
        refine HMd.out.mono ?_
        rintro e w5 ⟨rfl, rfl⟩
        go_wp2_with fail
        refine (HW _).out.mono ?_
        rintro e w5 ⟨rfl, rfl⟩
        go_wp2_with fail
        refine HWk.out.mono ?_
        rintro e w8 ⟨rfl, ha, hk⟩
        have T3 := Lib.hid (T2.out.work 1073741824 ha hk)
        have C5 := Lib.hid ((hk.cell (o := 2) zlt3.out zK).trans C3.out)
        have z5 := Lib.hid (Nat.lt_of_lt_of_le zlt3.out hk.size)
        have wt0 := work_none 1073741824 _ T2.out.gd (by have := T2.out.gd.busy_le; have := T2.out.n; omega)
        obtain ⟨u3, hu3⟩ : ∃ u3 : Nat, (s1.work 1073741824).1.busy = (u3 : Int) := Int.eq_ofNat_of_zero_le T3.out.gd.busy_le.1
        have u3I : (u3 : Int) ≤ 500 := by have := T3.out.gd.busy_le.2; have := T3.out.n; omega
        have HU := Lib.hid (used_is hu3 T3.out.ars)
        have HR := Lib.hid (reach_len (n := u3) T3.out.ars (snd_fit (T3.out.good HJ1.out)) T3.out.ids.ints HR100.out (fun zs a b => by have := busy_reach T3.out.gd wt0 (R := R) (fun _ h => h) a b; omega))
        clear ha hk HWk wt0 hu3 T2 C3 zlt3
        go_wp2_with fail
        refine HU.out.mono ?_
        rintro e w9 ⟨rfl, rfl⟩
        go_wp2_with fail
        refine HR.out.mono ?_
        rintro e w10 ⟨⟨ra, rc, rfl⟩, hb⟩
        have T4 := Lib.hid (T3.out.below hb)
        have C6 := Lib.hid ((hb.cell (p := ⟨z, 2, none⟩) z5.out).trans C5.out)
        clear hb HR
        go_wp2_with fail
        go_meet
        case rel => exact ⟨at_ T4.out, C6.out⟩
end Go.Proofs.Ytcdmebjggdhhdaa.listPlays
