/- TablePlays: behind a round's operation: the table's length and total; behind the loop: nothing is used. -/
import Derived.Test.YtcdmebjggdhhdaaTp0
namespace Go.Proofs.Ytcdmebjggdhhdaa.tablePlays
open Go.ChangeShapes Go.WideShapes Go.ChangeAt Go.RowKit
set_option linter.unusedVariables false
set_option maxRecDepth 100000 in
set_option maxHeartbeats 16000000 in
theorem rest_is : stage0.2.1 := by
  intro m row w HA vc hl h3 h3' N w0 _ h1 h2 w1 w2 p ha _ _ wr u4 u10 u11 u12 u13 u14 u15 u16 u17 u18 u19 u20 u21 u22 u23 u24 u25 u26 u28 u52 u53 u54 u55 u56 u57 u58 u59 u60 u61 u62 u63 u64 u65 u66 u67 u68 u69 u70 u71 u72 u73 u74 u75 u76 u77 u78 u79 u80 u81 u82 u83 u84 u85 u86 u87 u88 u89 u90 u91 u92 u93 u94 u95 u96 u97 u98 u99 u100 u101 u102 u103 u104 u105 u106 u107 u108 u109 u110 u111 u112 u113 u114 u115 u116 u117 u118 u119 u120 u121 u122 u123 u124 u125 u126 u127 u128 u129 u130 u131 u132 u133 u134 u135 u136 u137 u138 u139 u140 u141 u142 u143 u144 u145 u146 u147 u148 u149 u150 u151 u152 u153 u154 u155 u156 u157 u158 u159 u160 u161 u162 u163 u164 u165 u166 u167 u168 u169 u170 u171 u172 u173 u174 u175 u176 u177 u178 u179 u180 u181 u182 u183 u184 u185 u186 u187 u188 u189 u190 u191 u192 u193 u194 u195 u196 u197 u198 u199 u200 u201 u202 u203 u204 u205 u206 u207 u208 u209 u210 u211 u212 u213 u214 u215 u216 u217 u218 u219 u220 u221 u222 u223 u224 u225 u226 u227 u228 u229 u230 u231 u232 u233 u234 u235 u236 u237 u238 u239 u240 u241 u242 u243 u244 u245 u246 u247 u248 u249 u250 u251 u252 u253 u254 u255 u256 u257 u258 u259 u260 u261 u262 u263 u264 u265 u266 u267 u268 u269 u270 u271 u272 u273 u274 u275 u276 u277 u278 u279 u280 u281 u282 u283 u284 u285 u286 u287 u288 u289 u290 u291 u292 u293 u294 u295 u296 u297 u298 u299 u300 u301 u302 u303 u304 u305 u306 u307 u308 u309 u310 u311 u312 u313 u314 u315 u316 u317 u318 u319 u320 u321 u322 u323 u324 u325 u326 u327 u328 u329 u330 u331 j j1 hlt ba off hba h K k1 k2 s l L HL a1 c1 a2 c2 kd wkd id wid nn wnn Hx hmc K1 k bb Hp hL10 Hlt xs HPl HPb Hxl _ _ _ z zK _ wr u12 u13 u58 u59 u60 u61 u62 u63 u64 u65 u66 u67 Hs Hids Hbx d0 d1 d2 zlt pu b1 hu Hpu b2 HP0 hul Hpl ub ubI pc pc0 pcI Hpc Hub _ _ _ _ _ wc u4 u6 u7 u8 u15 u16 u17 u18 u19 u20 u21 u22 u23 u24 u25 u52 u53 u54 u58 u59 u60 u61 u62 u63 u64 u65 u66 u67 u68 u69 u70 u71 u72 u73 u75 u76 u77 u78 u79 u80 u81 u82 u83 u84 u85 u86 u87 u88 u89 u90 u91 u92 u93 u94 u95 u96 u97 u98 u99 u100 u101 u102 u103 u104 u105 u106 u107 u108 u109 u110 u111 u112 u113 u114 u115 u116 u117 u118 u119 u120 u121 u122 u123 u124 u125 u126 u127 u128 u129 u130 u131 u132 u133 u134 u135 u136 u137 u138 u139 u140 u141 u142 u143 u144 u145 u146 u147 u148 u149 u150 u151 u152 u153 u154 u155 u156 u157 u158 u159 u160 u161 u162 u163 u164 u165 u166 u167 u168 u169 u170 u171 u172 u173 u174 u175 u176 u177 u178 u179 u180 u181 u182 u183 u184 u185 u186 u187 u188 u189 u190 u191 u192 u193 u194 u195 u196 u197 u198 u199 u200 u201 u202 u203 u204 u205 u206 u207 u208 u209 u210 u211 u212 u213 u214 u215 u216 u217 u218 u219 u220 u221 u222 u223 u224 u225 u226 u227 u228 u229 u230 u231 u232 u233 u234 u235 u236 u237 u238 u239 u240 u241 u242 u243 u244 u245 u246 u247 u248 u249 u250 u251 u252 u253 u254 u255 u256 u257 u258 u259 u260 u261 u262 u263 u264 u265 u266 u267 u268 u269 u270 u271 u272 u273 u274 u275 u276 u277 u278 u279 u280 u281 u282 u283 u284 u285 u286 u287 u288 u289 u290 u291 u292 u293 u294 u295 u296 u297 u298 u299 u300 u301 u302 u303 u304 u305 u306 u307 u311 u312 u313 u314 u315 u316 u317 u318 u319 u320 u321 u322 u323 u324 u325 u326 u327 u328 u329 u330 u331 hcut
  clear Hs d0 d1 d2 Hbx zlt zK HL Hids HPb HPl Hxl Hpu HP0 Hub Hpc Hpl Hp b1 b2
  clear hL10 ubI pcI pc0
  obtain ⟨h, K, k1, k2, s, l, rfl, hs⟩ := hcut
  obtain ⟨L, HL⟩ : ∃ L, Hid (l.length = L) := ⟨_, rfl⟩
  have hsl1 := hs.ids.slice
  have hsl2 := hs.lens.slice
  rw [List.length_map, HL.out] at hsl1 hsl2
  obtain ⟨a1, c1, rfl⟩ := hsl1
  obtain ⟨a2, c2, rfl⟩ := hsl2
  have hL10 : L ≤ 10 := by rw [← HL.out]; exact hs.ten
  have G := Lib.hid (hs.gd.goodb (by simp) (by have := hs.mb; have := Hlt.out; omega))
  have HT := Lib.hid (show sumTo (l.map Prod.snd) (L : Int) L = tot l by have := sumTo_tot l (L : Int); rw [HL.out] at this; omega)
  have HLn := Lib.hid (tlen_is HL.out G.out (by decide) hs.lh (.inr (.inl List.mem_cons_self)) (by omega) hs.ars)
  have HTo := Lib.hid (fun W ha => total_is (w := W) (K := K) (p := p) (t := tot l) rfl G.out (by decide) hs.lh (.inr (.inl List.mem_cons_self)) hs.docs ha)
  have hb40 : ∀ i, i < (l.map Prod.snd).length → 0 ≤ (l.map Prod.snd).getD i 0 ∧ (l.map Prod.snd).getD i 0 ≤ 40 := fun i hi => by
    rw [List.length_map] at hi
    rw [getD_snd]
    exact (hs.docs.2 (l.getD i (0, 0)) (by rw [List.getD_eq_getElem?_getD, List.getElem?_eq_getElem hi]; exact List.getElem_mem _)).2
  have Hb40 := Lib.hid hb40
  have Hsb := Lib.hid (fun j hj => sumTo_bd (n0 := (L : Int)) hb40 j hj)
  have Hlens := Lib.hid hs.lens
  have Hyl := Lib.hid (show (l.map Prod.snd).length = L by rw [List.length_map]; exact HL.out)
  have Hs := Lib.hid hs
  clear hs hb40
  generalize l.map Prod.snd = ys at HT Hb40 Hsb Hlens Hyl
  generalize tot l = tt at HT HTo
  go_wp2_with fail
  go_loopw [26, 310] (fun t i W => ∃ u : Nat, i = .int .i64 (u : Int) ∧ u ≤ L ∧ t = .int .i64 (sumTo ys (L : Int) u) ∧ W = wc) (fun _ i _ => L - (intOf i).toNat)
  case atStart => exact ⟨0, rfl, Nat.zero_le _, rfl, rfl⟩
  case round =>
    obtain ⟨u, rfl, hu, rfl, rfl⟩ := hrel
    have Hsu := Lib.hid (show sumTo ys (L : Int) (u + 1) = sumTo ys (L : Int) u + ys.getD u 0 from rfl)
    obtain ⟨b1, b2⟩ := Hsb.out u (by rw [Hyl.out]; exact hu)
    obtain ⟨su, hsu⟩ : ∃ su, sumTo ys (L : Int) u = su := ⟨_, rfl⟩
    have HS0 := Lib.hid hsu
    rw [hsu] at Hsu b1 b2 ⊢
    clear hsu
    by_cases hul : u < L
    · obtain ⟨g, cp, hsl, hcp, hKg, hcl⟩ := Hlens.out.at_ (i := u) (by rw [Hyl.out]; exact hul)
      have hcu := hcl u (by rw [Hyl.out]; exact hul)
      obtain ⟨b3, b4⟩ := Hb40.out u (by rw [Hyl.out]; exact hul)
      have hga : a2 = some ⟨g, 0, none⟩ := by injection hsl
      subst hga
      clear hsl hcl hcp
      generalize ys.getD u 0 = y at *
      go_wp2_with fail
      go_roundw
      case rel => exact ⟨u + 1, by go_num, by omega, by rw [Hsu.out], trivial⟩
      case measure => simp [intOf]; omega
    · obtain rfl : u = L := by omega
      have hst : su = tt := HS0.out.symm.trans HT.out
      subst hst
      clear HS0 HT Hsu
      go_wp2_with fail
      refine HLn.out.mono ?_
      rintro e w5 ⟨rfl, ha, hb⟩
      have A5 := Lib.hid ha
      have B5 := Lib.hid hb
      clear ha hb HLn
      go_wp2_with fail
      refine (HTo.out _ A5.out).mono ?_
      rintro e w6 ⟨rfl, hb⟩
      have B6 := Lib.hid (B5.out.trans (hb.mono B5.out.size))
      clear hb HTo
      go_wp2_with fail
      go_roundw
      case rel => exact ⟨j + 1, by go_num, by have := Hlt.out; omega, at_ (Hs.out.below B6.out)⟩
      case measure => simp [intOf]; have := Hlt.out; omega
set_option maxRecDepth 100000 in
set_option maxHeartbeats 16000000 in
theorem fin_is : stage0.2.2.1 := by
  intro m row w HA va vc hl Hx h3 h3' N w0 _ h1 h2 w1 w2 p ha _ _ wr u4 u6 u7 u8 u10 u11 u12 u13 u14 u15 u16 u17 u18 u19 u20 u21 u22 u23 u24 u25 u26 u28 u52 u53 u54 u55 u56 u57 u58 u59 u60 u61 u62 u63 u64 u65 u66 u67 u68 u69 u70 u71 u72 u73 u74 u75 u76 u77 u78 u79 u80 u81 u82 u83 u84 u85 u86 u87 u88 u89 u90 u91 u92 u93 u94 u95 u96 u97 u98 u99 u100 u101 u102 u103 u104 u105 u106 u107 u108 u109 u110 u111 u112 u113 u114 u115 u116 u117 u118 u119 u120 u121 u122 u123 u124 u125 u126 u127 u128 u129 u130 u131 u132 u133 u134 u135 u136 u137 u138 u139 u140 u141 u142 u143 u144 u145 u146 u147 u148 u149 u150 u151 u152 u153 u154 u155 u156 u157 u158 u159 u160 u161 u162 u163 u164 u165 u166 u167 u168 u169 u170 u171 u172 u173 u174 u175 u176 u177 u178 u179 u180 u181 u182 u183 u184 u185 u186 u187 u188 u189 u190 u191 u192 u193 u194 u195 u196 u197 u198 u199 u200 u201 u202 u203 u204 u205 u206 u207 u208 u209 u210 u211 u212 u213 u214 u215 u216 u217 u218 u219 u220 u221 u222 u223 u224 u225 u226 u227 u228 u229 u230 u231 u232 u233 u234 u235 u236 u237 u238 u239 u240 u241 u242 u243 u244 u245 u246 u247 u248 u249 u250 u251 u252 u253 u254 u255 u256 u257 u258 u259 u260 u261 u262 u263 u264 u265 u266 u267 u268 u269 u270 u271 u272 u273 u274 u275 u276 u277 u278 u279 u280 u281 u282 u283 u284 u285 u286 u287 u288 u289 u290 u291 u292 u293 u294 u295 u296 u297 u298 u299 u300 u301 u302 u303 u304 u305 u306 u307 u308 u309 u310 u311 u312 u313 u314 u315 u316 u317 u318 u319 u320 u321 u322 u323 u324 u325 u326 u327 u328 u329 u330 u331 j j1 hat hlt
  obtain ⟨h, K, k1, k2, s, l, rfl, hs⟩ := hat
  have E := Lib.hid (hs.ends (by omega))
  have T := Lib.hid hs
  have hjm : ¬ ((j : Int) < (m : Int)) := by omega
  clear hs hlt
  by_cases hh : h = 0
  · have h0 : (h == 0) = true := by simpa using hh
    have h1 : (h != 0) = false := by simpa using hh
    have HW := Lib.hid (work_is (B := 100000000000) 1073741824 (s := s) (s' := (s.work 1073741824).1) (n := (s.work 1073741824).2) rfl rfl T.out.ars E.out.snd1 (by decide) (by decide))
    have HZ := Lib.hid (show (s.work 1073741824).1.busy = ((0 : Nat) : Int) from by have := E.out.zero; rw [E.out.same hh] at this; exact this)
    clear hh
    go_wp2_with fail
    refine HW.out.mono ?_
    rintro e w5 ⟨rfl, ha, hk⟩
    have B5 := Lib.hid (T.out.bel.trans ((hk.mono fun x _ hx => T.out.kK x hx).below_of T.out.bel.size))
    have HU := Lib.hid (used_is HZ.out ha)
    clear ha hk HW T
    go_wp2_with fail
    refine HU.out.mono ?_
    rintro e w6 ⟨rfl, rfl⟩
    go_wp2_with fail
    go_ret
    exact ⟨rfl, B5.out⟩
  · have h0 : (h == 0) = false := by simpa using hh
    have h1 : (h != 0) = true := by simpa using hh
    have HD := Lib.hid (drop_is h (E.out.drop hh) T.out.ars (snd_fit E.out.snd1))
    have HZ := Lib.hid (show ((s.drop h).1.work 1073741824).1.busy = ((0 : Nat) : Int) from E.out.zero)
    have KK := Lib.hid T.out.kK
    clear hh
    go_wp2_with fail
    refine HD.out.mono ?_
    rintro e w4 ⟨rfl, ha, hk⟩
    have HW := Lib.hid (work_is (B := 100000000000) 1073741824 (s := (s.drop h).1) (s' := ((s.drop h).1.work 1073741824).1) (n := ((s.drop h).1.work 1073741824).2) rfl rfl ha E.out.snd2 (by decide) (by decide))
    replace T := Lib.hid (T.out.bel.trans ((hk.mono fun x _ hx => T.out.kK x hx).below_of T.out.bel.size))
    clear ha hk HD
    go_wp2_with fail
    refine HW.out.mono ?_
    rintro e w5 ⟨rfl, ha, hk⟩
    have B5 := Lib.hid (T.out.trans ((hk.mono fun x _ hx => KK.out x hx).below_of T.out.size))
    have HU := Lib.hid (used_is HZ.out ha)
    clear ha hk HW T
    go_wp2_with fail
    refine HU.out.mono ?_
    rintro e w6 ⟨rfl, rfl⟩
    go_wp2_with fail
    go_ret
    exact ⟨rfl, B5.out⟩
end Go.Proofs.Ytcdmebjggdhhdaa.tablePlays
