/- ListPlays, behind the loop: each list is as it should be; all are dropped; nothing is used. -/
import Derived.Test.YtcdmebjggdhhdaaLp0
import Derived.Test.YtcdmebjggdhhdaaGpP
namespace Go.Proofs.Ytcdmebjggdhhdaa.listPlays
open Go.ChangeShapes Go.WideShapes Go.ChangeAt Go.RowKit
set_option linter.unusedVariables false
set_option maxRecDepth 100000 in
set_option maxHeartbeats 16000000 in
theorem fin_is : stage0.2.1 := by
  intro m row w HA va vc hl Hx h3 h3' N w0 _ h1 h2 w1 w2 p ha _ _ wr u4 u6 u7 u9 u10 u11 u12 u13 u14 u15 u16 u17 u18 u19 u20 u21 u22 u51 u52 u53 u54 u55 u56 u57 u58 u59 u60 u61 u62 u63 u64 u65 u66 u67 u68 u69 u70 u71 u72 u73 u74 u75 u76 u77 u78 u79 u80 u81 u82 u83 u84 u85 u86 u87 u88 u89 u90 u91 u92 u93 u94 u95 u96 u97 u98 u99 u100 u101 u102 u103 u104 u105 u106 u107 u108 u109 u110 u111 u112 u113 u114 u115 u116 u117 u118 u119 u120 u121 u122 u123 u124 u125 u126 u127 u128 u129 u130 u131 u132 u133 u134 u135 u136 u137 u138 u139 u140 u141 u142 u143 u144 u145 u146 u147 u148 u149 u150 u151 u152 u153 u154 u155 u156 u157 u158 u159 u160 u161 u162 u163 u164 u165 u166 u167 u168 u169 u170 u171 u172 u173 u174 u175 u176 u177 u178 u179 u180 u181 u182 u183 u184 u185 u186 u187 u188 u189 u190 u191 u192 u193 u194 u195 u196 u197 u198 u199 u200 u201 u202 u203 u204 u205 u206 u207 u208 u209 u210 u211 u212 u213 u214 u215 u216 u217 u218 u219 u220 u221 u222 u223 u224 u225 u226 u227 u228 u229 u230 u231 u232 u233 u234 u235 u236 u237 u238 u239 u240 u241 u242 u243 u244 u245 u246 u247 u248 u249 u250 u251 u252 u253 u254 u255 u256 u257 u258 u259 u260 u261 u262 u263 u264 u265 u266 u267 u268 u269 u270 u271 u272 u273 u274 u275 u276 u277 u278 u279 u280 u281 u282 u283 u284 u285 u286 u287 u288 u289 u290 u291 u292 u293 u294 u295 u296 u297 u298 u299 u300 u301 u302 u303 u304 u305 u306 u307 u308 u309 u310 u311 u312 u313 u314 u315 u316 u317 u318 u319 u320 u321 u322 u323 u324 u325 u326 u327 u328 u329 u330 u331 u332 u333 u334 u335 u336 u337 u338 u339 u340 u341 u342 u343 u344 u345 u346 u347 u348 u349 u350 u351 u352 u353 u354 u355 u356 u357 u358 u359 u360 u361 u362 u363 u364 u365 u366 u367 u368 u369 u370 u371 u372 u373 u374 u375 u376 u377 u378 u379 u380 u381 u382 u383 u384 u385 u386 u387 u388 u389 u390 u391 u392 u393 u394 u395 u396 u397 u398 u399 u400 u401 u402 u403 u404 u405 u406 u407 u408 u409 u410 u411 u412 u413 j j1 hat HJ
  obtain ⟨K, k1, k2, s, R, ws, V, hs⟩ := hat
  have hj : j ≤ 100 := by have := HJ.out; simp at h3'; omega
  obtain ⟨q, HL⟩ : ∃ q, Hid (R.length = q) := ⟨_, rfl⟩
  have hq1 : 1 ≤ q := by have := hs.pos; rw [HL.out] at this; exact this
  have hq2 : q ≤ j + 1 := by have := hs.le; rw [HL.out] at this; exact this
  have hsl1 := hs.ids.slice
  have hsl2 := hs.want.slice
  rw [HL.out] at hsl1 hsl2
  obtain ⟨a1, c1, rfl⟩ := hsl1
  obtain ⟨a2, c2, rfl⟩ := hsl2
  have qI : (q : Int) ≤ 101 := by omega
  have HJ2 := Lib.hid hj
  have hjm : ¬ ((j : Int) < (m : Int)) := by have := HJ.out; omega
  clear hj
  go_wp2_with fail
  go_loopw [416] (fun i W => ∃ u : Nat, i = .int .i64 (u : Int) ∧ u ≤ q ∧ PS w p j K k1 k2 s R ws V (.slice a1 q c1) (.slice a2 q c2) W) (fun i _ => q - (intOf i).toNat)
  case atStart => exact ⟨0, rfl, Nat.zero_le _, hs⟩
  case round =>
    obtain ⟨u, rfl, hu, hs⟩ := hrel
    by_cases hul : u < q
    · have hkq : u < R.length := by rw [HL.out]; exact hul
      obtain ⟨ga, cp1, hsl1, hcp1, hKg1, hcl1⟩ := hs.ids.at_ (i := u) hkq
      obtain ⟨gb, cp2, hsl2, hcp2, hKg2, hlg2, hcl2⟩ := hs.want.at_ hs.pos
      have hga1 : a1 = some ⟨ga, 0, none⟩ := by injection hsl1
      have hga2 : a2 = some ⟨gb, 0, none⟩ := by injection hsl2
      subst hga1 hga2
      obtain ⟨aw', cw', hvw⟩ := (hs.items u hkq).items.val
      have r1 : wr.cell? ⟨ga, u, none⟩ = some (.int .i64 (R.getD u 0)) := hcl1 u hkq
      have r2 : wr.cell? ⟨gb, u, none⟩ = some (V.getD u undef) := hcl2 u _ (by rw [List.getD_eq_getElem?_getD, List.getElem?_eq_getElem (by rw [hs.lenV]; exact hkq)]; rfl)
      obtain ⟨wl', hwl⟩ : ∃ wl, (ws.getD u []).length = wl := ⟨_, rfl⟩
      have wl1 : wl' ≤ j := by rw [← hwl]; exact (hs.rg u hkq).2
      have HIt := Lib.hid (hs.items u hkq)
      rw [hvw] at HIt
      rw [hvw, hwl] at r2
      rw [hwl] at HIt
      have HLh := Lib.hid (hs.lh u hkq)
      have HRg := Lib.hid (hs.rg u hkq).1
      have HF := Lib.hid (firm_at (s := s) hkq)
      obtain ⟨h', hh⟩ : ∃ h, R.getD u 0 = h := ⟨_, rfl⟩
      rw [hh] at r1 HLh HF
      obtain ⟨l', hl'⟩ : ∃ l, ws.getD u [] = l := ⟨_, rfl⟩
      rw [hl'] at HLh HRg hwl HIt
      have HWl := Lib.hid hwl
      have wle : wl' ≤ 100 := by have := HJ2.out; omega
      have G := Lib.hid (hs.goodb (by have := HJ2.out; omega))
      have HAl := Lib.hid (fun W (ha : Ars W K p s) => all_is (w := W) G.out (by decide) HLh.out (.inr HF.out) (by rw [HWl.out]; omega) HRg.out ha)
      have Td := Lib.hid (hs.below ((Below.refl wr.heap.size wr).drew))
      have uI : (u : Int) < (q : Int) := by omega
      have wlI : (wl' : Int) ≤ 100 := by omega
      have La := Lib.hid (hs.klt ga (hs.sub1 ga hKg1))
      have Lb := Lib.hid hlg2
      have R1 := Lib.hid r1
      have R2' := Lib.hid r2
      clear hs hsl1 hsl2 hcp1 hcp2 hKg1 hKg2 hcl1 hcl2 hvw hwl hh hl' hlg2 wl1
      go_wp2_with fail
      go_region_held3 (fun w' => w'.cell? ⟨ga, u, none⟩ = some (.int .i64 h') ∧ w'.cell? ⟨gb, u, none⟩ = some (.slice aw' wl' cw')) (go_keep) (first | (go_at_call 22; refine (HAl.out _ Td.out.ars).mono ?_; rintro e w5 ⟨va, rfl, ho, hb⟩; have T5 := Lib.hid (Td.out.below hb); have f1 : w5.cell? ⟨ga, u, none⟩ = some (.int .i64 h') := (hb.cell La.out).trans R1.out; have f2 : w5.cell? ⟨gb, u, none⟩ = some (.slice aw' wl' cw') := (hb.cell Lb.out).trans R2'.out; have I5 := Lib.hid (Items.own ho); have B5 := Lib.hid hb; clear ho hb) | (go_at_call 21; have t := I5; refine (same_true I5.out ((HIt.out.kept (Kept.of_below ((Below.refl wr.heap.size wr).drew) _)).kept (Kept.of_below B5.out _)).items (by rw [HWl.out]; omega)).mono ?_; rintro e w6 ⟨rfl, hb⟩; have T6 := Lib.hid (T5.out.below hb); have f3 : w6.cell? ⟨ga, u, none⟩ = some (.int .i64 h') := (hb.cell (Nat.lt_of_lt_of_le La.out B5.out.size)).trans f1; have f4 : w6.cell? ⟨gb, u, none⟩ = some (.slice aw' wl' cw') := (hb.cell (Nat.lt_of_lt_of_le Lb.out B5.out.size)).trans f2; have B6 := Lib.hid hb; clear hb))
      all_goals
        go_wp2_with fail
        go_roundw
        case rel => exact ⟨u + 1, by go_num, by omega, T6.out⟩
        case measure => simp [intOf]; omega
    · obtain rfl : u = q := by omega
      have HD := Lib.hid (hs.drops (by have := HJ2.out; omega))
      clear hs hul hu
      go_wp2_with fail
      go_loopw [434] (fun i W => ∃ (t : Nat) (s' : Ar), i = .int .i64 (t : Int) ∧ t ≤ u ∧ DS w p t K k1 s' R (.slice a1 u c1) W) (fun i _ => u - (intOf i).toNat)
      case atStart => exact ⟨0, s, rfl, Nat.zero_le _, HD.out⟩
      case round =>
        obtain ⟨t, s', rfl, ht, hd⟩ := hrel
        clear HD
        by_cases htl : t < u
        · have hkq : t < R.length := by rw [HL.out]; exact htl
          obtain ⟨ga, cp1, hsl1, hcp1, hKg1, hcl1⟩ := hd.ids.at_ (i := t) hkq
          have hga1 : a1 = some ⟨ga, 0, none⟩ := by injection hsl1
          subst hga1
          have r1 := hcl1 t hkq
          have D := Lib.hid hd
          have HKq := Lib.hid hkq
          have sn := Lib.hid hd.good
          have tI : (t : Int) < (u : Int) := by omega
          obtain ⟨h', hh⟩ : ∃ h, R.getD t 0 = h := ⟨_, rfl⟩
          rw [hh] at r1
          have HH := Lib.hid hh
          clear hd hsl1 hcp1 hKg1 hcl1 hkq
          by_cases h0 : h' = 0
          · have e0 : (h' == 0) = true := by simpa using h0
            have e1 : (h' != 0) = false := by simpa using h0
            have NX := Lib.hid (D.out.skip HKq.out (hh.trans h0))
            clear h0 hh
            go_wp2_with fail
            go_roundw
            case rel => exact ⟨t + 1, s', by go_num, by omega, NX.out⟩
            case measure => simp [intOf]; omega
          · have e0 : (h' == 0) = false := by simpa using h0
            have e1 : (h' != 0) = true := by simpa using h0
            have hc := D.out.can HKq.out (by rw [hh]; exact h0)
            have NX := Lib.hid (fun W' ha hk => D.out.step (W' := W') HKq.out ha hk)
            rw [hh] at hc NX
            have HDr := Lib.hid (drop_is h' hc D.out.ars (snd_fit sn.out))
            clear h0 hh hc
            go_wp2_with fail
            refine HDr.out.mono ?_
            rintro e w5 ⟨rfl, ha, hk⟩
            have N2 := Lib.hid (NX.out _ ha hk)
            clear ha hk HDr NX
            go_wp2_with fail
            go_roundw
            case rel => exact ⟨t + 1, _, by go_num, by omega, N2.out⟩
            case measure => simp [intOf]; omega
        · obtain rfl : t = u := by omega
          have D := Lib.hid hd
          have HW := Lib.hid (work_is (B := 100000000000) 1073741824 (s := s') (s' := (s'.work 1073741824).1) (n := (s'.work 1073741824).2) rfl rfl hd.ars hd.good (by decide) (by decide))
          have HZ := Lib.hid (show (s'.work 1073741824).1.busy = ((0 : Nat) : Int) from hd.zero HL.out.symm)
          clear hd htl ht
          go_wp2_with fail
          refine HW.out.mono ?_
          rintro e w5 ⟨rfl, ha, hk⟩
          have B5 := Lib.hid (D.out.bel.trans ((hk.mono fun x _ hx => D.out.kK x hx).below_of D.out.bel.size))
          have HU := Lib.hid (used_is HZ.out ha)
          clear ha hk HW D
          go_wp2_with fail
          refine HU.out.mono ?_
          rintro e w6 ⟨rfl, rfl⟩
          go_wp2_with fail
          go_ret
          exact ⟨rfl, B5.out⟩
end Go.Proofs.Ytcdmebjggdhhdaa.listPlays
