/- TablePlays: behind a change: it was told; there was no room; it is done. -/
import Derived.Test.YtcdmebjggdhhdaaTp2
namespace Go.Proofs.Ytcdmebjggdhhdaa.tablePlays
open Go.ChangeShapes Go.WideShapes Go.ChangeAt Go.RowKit
set_option linter.unusedVariables false
set_option maxRecDepth 100000 in
set_option maxHeartbeats 16000000 in
theorem add_then : stage1.2.1 := by
  intro m row w HA vc hl h3 h3' N w0 _ h1 h2 w1 w2 p ha _ _ wr u4 u10 u11 u12 u13 u14 u15 u16 u17 u18 u19 u20 u21 u22 u23 u24 u25 u26 u28 u52 u53 u54 u55 u56 u57 u58 u59 u60 u61 u62 u63 u64 u65 u66 u67 u68 u69 u70 u71 u72 u73 u74 u75 u76 u77 u78 u79 u80 u81 u82 u83 u84 u85 u86 u87 u88 u89 u90 u91 u92 u93 u94 u95 u96 u97 u98 u99 u100 u101 u102 u103 u104 u105 u106 u107 u108 u109 u110 u111 u112 u113 u114 u115 u116 u117 u118 u119 u120 u121 u122 u123 u124 u125 u126 u127 u128 u129 u130 u131 u132 u133 u134 u135 u136 u137 u138 u139 u140 u141 u142 u143 u144 u145 u146 u147 u148 u149 u150 u151 u152 u153 u154 u155 u156 u157 u158 u159 u160 u161 u162 u163 u164 u165 u166 u167 u168 u169 u170 u171 u172 u173 u174 u175 u176 u177 u178 u179 u180 u181 u182 u183 u184 u185 u186 u187 u188 u189 u190 u191 u192 u193 u194 u195 u196 u197 u198 u199 u200 u201 u202 u203 u204 u205 u206 u207 u208 u209 u210 u211 u212 u213 u214 u215 u216 u217 u218 u219 u220 u221 u222 u223 u224 u225 u226 u227 u228 u229 u230 u231 u232 u233 u234 u235 u236 u237 u238 u239 u240 u241 u242 u243 u244 u245 u246 u247 u248 u249 u250 u251 u252 u253 u254 u255 u256 u257 u258 u259 u260 u261 u262 u263 u264 u265 u266 u267 u268 u269 u270 u271 u272 u273 u274 u275 u276 u277 u278 u279 u280 u281 u282 u283 u284 u285 u286 u287 u288 u289 u290 u291 u292 u293 u294 u295 u296 u297 u298 u299 u300 u301 u302 u303 u304 u305 u306 u307 u308 u309 u310 u311 u312 u313 u314 u315 u316 u317 u318 u319 u320 u321 u322 u323 u324 u325 u326 u327 u328 u329 u330 u331 j j1 hlt ba off hba h K k1 k2 s l L HL a1 c1 a2 c2 id wid nn wnn Hx hmc K1 k bb Hp hL10 Hlt xs HPl HPb Hxl _ _ _ z zK _ wr u12 u13 u58 u59 u60 u61 u62 u63 u64 u65 u66 u67 Hs Hids zlt pu b1 hu Hpu b2 HP0 hul Hpl ub ubI pc pc0 pcI Hpc Hub _ _ _ _ _ _ G wkd Hbx _ _ _ v5 w5 kA v6 w6 kB F6 N6 K6 T6 K1K KA KB zK6 zlt6 f0 f1 f2 _ _ wc u15 u16 u17 u18 u19 u52 u53 u54 u58 u59 u60 u61 u62 u63 u64 u65 u66 u67 u68 u69 u70 u71 u72 u73 u76 u77 u78 u79 u80 u81 u82 u83 u84 u85 u86 u87 u88 u89 u90 u91 u92 u93 u94 u95 u96 u97 u98 u99 u100 u101 u102 u103 u104 u105 u106 u107 u108 u109 u110 u111 u112 u113 u114 u115 u116 u117 u118 u119 u120 u121 u122 u123 u124 u125 u126 u127 u128 u129 u130 u131 u132 u133 u134 u135 u136 u137 u138 u139 u140 u141 u142 u143 u144 u145 u146 u147 u148 u149 u150 u151 u152 u153 u154 u155 u156 u157 u158 u159 u160 u161 u162 u163 u164 u165 u166 u167 u168 u169 u170 u171 u172 u173 u174 u175 u176 u177 u178 u179 u180 u181 u182 u183 u184 u185 u186 u187 u188 u189 u190 u191 u192 u193 u194 u195 u196 u197 u198 u199 u200 u201 u202 u203 u204 u205 u206 u207 u208 u209 u210 u211 u212 u213 u214 u216 u217 u218 u219 u220 u221 u222 u223 u224 u225 u226 u227 u228 u229 u230 u231 u232 u233 u234 u235 u236 u237 u238 u239 u240 u241 u242 u243 u244 u245 u246 u247 u248 u249 u250 u251 u252 u253 u254 u255 u256 u257 u258 u259 u260 u261 u262 u263 u264 u265 u266 u267 u268 u269 u271 u272 u273 u274 u275 u276 u277 u278 u279 u280 u281 u282 u283 u284 u285 u286 u287 u288 u289 u290 u291 u292 u293 u294 u295 u296 u297 u298 u299 u301 u302 u303 u304 u305 u306 u307 u311 u312 u313 u314 u315 u316 u317 u318 u319 u320 u321 u322 u323 u324 u325 u326 u327 u328 u329 u330 u331 hcut
  rcases hcut with ⟨f0, K2, f1, f2, rfl, rfl, rfl, hT⟩ | ⟨q, e1, s1, l2, K2, kA', kB', rfl, rfl, rfl, hc⟩
  · have T2 := Lib.hid hT
    have HU := Lib.hid (used_is Hub.out T2.out.ars)
    have HPn := Lib.hid (pending_is Hpc.out T2.out.ars)
    have e2 : (f0 == 2) = false := by simpa using f2
    have e0 : (f0 == 0) = false := by simpa using f1
    have e0' : (f0 != 0) = true := by simpa using f1
    clear hT f1 f2
    go_wp2_with fail
    refine HU.out.mono ?_
    rintro e w8 ⟨rfl, rfl⟩
    go_wp2_with fail
    refine HPn.out.mono ?_
    rintro e w8 ⟨rfl, rfl⟩
    go_wp2_with fail
    go_meet
    case rel => exact at_ T2.out.next
  · by_cases e0 : e1 = 0
    · subst e0
      have C := Lib.hid hc
      have D := Lib.hid (hc.did Hs.out (by have := Hlt.out; omega))
      have HLn := Lib.hid (tlen_is HL.out (D.out.gd.goodb (by simp) D.out.mb) (by decide) D.out.lh (.inr (.inl (List.mem_cons_of_mem _ List.mem_cons_self))) (by omega) C.out.ars)
      clear hc
      go_wp2_with fail
      refine HLn.out.mono ?_
      rintro e w8 ⟨rfl, ha, hb⟩
      have A8 := Lib.hid ha
      have K8 := Lib.hid (Kept.of_below hb K2)
      clear ha hb HLn
      by_cases hh : h = 0
      · have h0 : (h == 0) = true := by simpa using hh
        have h1 : (h != 0) = false := by simpa using hh
        have NX := Lib.hid (D.out.next _ (by rw [D.out.same hh]; exact A8.out) K8.out)
        clear hh
        go_wp2_with fail
        go_meet
        case rel => exact at_ NX.out
      · have h0 : (h == 0) = false := by simpa using hh
        have h1 : (h != 0) = true := by simpa using hh
        have HD := Lib.hid (drop_is h (D.out.drop hh) A8.out (snd_fit D.out.snd))
        clear hh
        go_wp2_with fail
        refine HD.out.mono ?_
        rintro e w9 ⟨rfl, ha, hk⟩
        have NX := Lib.hid (D.out.next _ ha (K8.out.trans hk))
        clear ha hk HD
        go_wp2_with fail
        go_meet
        case rel => exact at_ NX.out
    · obtain ⟨rfl, rfl, hT⟩ := hc.full Hs.out e0
      clear e0 hc
      have sn := hT.good (by have := Hlt.out; omega)
      have T2 := Lib.hid hT
      have HW := Lib.hid (work_is (B := 100000000000) 1073741824 (s := s1) (s' := (s1.work 1073741824).1) (n := (s1.work 1073741824).2) rfl rfl hT.ars sn (by decide) (by decide))
      clear hT sn
      go_wp2_with fail
      refine HW.out.mono ?_
      rintro e w8 ⟨rfl, ha, hk⟩
      have T3 := Lib.hid (T2.out.work 1073741824 ha hk)
      have wt0 := work_none 1073741824 _ T2.out.gd (by have := T2.out.gd.busy_le; have := T2.out.n; omega)
      obtain ⟨u3, hu3⟩ : ∃ u3 : Nat, (s1.work 1073741824).1.busy = (u3 : Int) := Int.eq_ofNat_of_zero_le T3.out.gd.busy_le.1
      have u3I : (u3 : Int) ≤ 200 := by have := T3.out.gd.busy_le.2; have := T3.out.n; omega
      have HU := Lib.hid (used_is hu3 T3.out.ars)
      have HR := Lib.hid (reach_len (n := u3) (T3.out.alloc (.cells #[.int .i64 h] 3)).ars (snd_fit (T3.out.good (by have := Hlt.out; omega))) (ints_one w8 h) (by show 1 ≤ 100; omega) (fun zs a b => by have := busy_reach T3.out.gd wt0 (R := [h]) (fun _ h => h) a b; omega))
      clear ha hk HW wt0 hu3
      go_wp2_with fail
      refine HU.out.mono ?_
      rintro e w9 ⟨rfl, rfl⟩
      go_wp2_with fail
      refine HR.out.mono ?_
      rintro e w10 ⟨⟨ra, rc, rfl⟩, hb⟩
      have T4 := Lib.hid ((T3.out.alloc (.cells #[.int .i64 h] 3)).below hb)
      clear hb HR
      go_wp2_with fail
      go_meet
      case rel => exact at_ T4.out
set_option maxRecDepth 100000 in
set_option maxHeartbeats 16000000 in
theorem cut_then : stage1.2.2.2.1 := by
  intro m row w HA vc hl h3 h3' N w0 _ h1 h2 w1 w2 p ha _ _ wr u4 u10 u11 u12 u13 u14 u15 u16 u17 u18 u19 u20 u21 u22 u23 u24 u25 u26 u28 u52 u53 u54 u55 u56 u57 u58 u59 u60 u61 u62 u63 u64 u65 u66 u67 u68 u69 u70 u71 u72 u73 u74 u75 u76 u77 u78 u79 u80 u81 u82 u83 u84 u85 u86 u87 u88 u89 u90 u91 u92 u93 u94 u95 u96 u97 u98 u99 u100 u101 u102 u103 u104 u105 u106 u107 u108 u109 u110 u111 u112 u113 u114 u115 u116 u117 u118 u119 u120 u121 u122 u123 u124 u125 u126 u127 u128 u129 u130 u131 u132 u133 u134 u135 u136 u137 u138 u139 u140 u141 u142 u143 u144 u145 u146 u147 u148 u149 u150 u151 u152 u153 u154 u155 u156 u157 u158 u159 u160 u161 u162 u163 u164 u165 u166 u167 u168 u169 u170 u171 u172 u173 u174 u175 u176 u177 u178 u179 u180 u181 u182 u183 u184 u185 u186 u187 u188 u189 u190 u191 u192 u193 u194 u195 u196 u197 u198 u199 u200 u201 u202 u203 u204 u205 u206 u207 u208 u209 u210 u211 u212 u213 u214 u215 u216 u217 u218 u219 u220 u221 u222 u223 u224 u225 u226 u227 u228 u229 u230 u231 u232 u233 u234 u235 u236 u237 u238 u239 u240 u241 u242 u243 u244 u245 u246 u247 u248 u249 u250 u251 u252 u253 u254 u255 u256 u257 u258 u259 u260 u261 u262 u263 u264 u265 u266 u267 u268 u269 u270 u271 u272 u273 u274 u275 u276 u277 u278 u279 u280 u281 u282 u283 u284 u285 u286 u287 u288 u289 u290 u291 u292 u293 u294 u295 u296 u297 u298 u299 u300 u301 u302 u303 u304 u305 u306 u307 u308 u309 u310 u311 u312 u313 u314 u315 u316 u317 u318 u319 u320 u321 u322 u323 u324 u325 u326 u327 u328 u329 u330 u331 j j1 hlt ba off hba h K k1 k2 s l L HL a1 c1 a2 c2 id wid nn wnn Hx hmc K1 k bb Hp hL10 Hlt xs HPl HPb Hxl _ _ _ z zK _ wr u12 u13 u58 u59 u60 u61 u62 u63 u64 u65 u66 u67 Hs Hids zlt pu b1 hu Hpu b2 HP0 hul Hpl ub ubI pc pc0 pcI Hpc Hub _ _ _ _ _ _ G wkd Hbx _ _ _ q1' v5 w5 kA v6 w6 kB F6 N6 K6 T6 K1K KA KB zK6 zlt6 f0 f1 f2 _ _ wc u15 u16 u17 u18 u19 u52 u53 u54 u58 u59 u60 u61 u62 u63 u64 u65 u66 u67 u68 u69 u70 u71 u72 u73 u76 u77 u78 u79 u80 u81 u82 u83 u84 u85 u86 u87 u88 u89 u90 u91 u92 u93 u94 u95 u96 u97 u98 u99 u100 u101 u102 u103 u104 u105 u106 u107 u108 u109 u110 u111 u112 u113 u114 u115 u116 u117 u118 u119 u120 u121 u122 u123 u124 u125 u126 u127 u128 u129 u130 u131 u132 u133 u134 u135 u136 u137 u138 u139 u140 u141 u142 u143 u144 u145 u146 u147 u148 u149 u150 u151 u152 u153 u154 u155 u156 u157 u158 u159 u160 u161 u162 u163 u164 u165 u166 u167 u168 u169 u170 u171 u172 u173 u174 u175 u176 u177 u178 u179 u180 u181 u182 u183 u184 u185 u186 u187 u188 u189 u190 u191 u192 u193 u194 u195 u196 u197 u198 u199 u200 u201 u202 u203 u204 u205 u206 u207 u208 u209 u210 u211 u212 u213 u214 u216 u217 u218 u219 u220 u221 u222 u223 u224 u225 u226 u227 u228 u229 u230 u231 u232 u233 u234 u235 u236 u237 u238 u239 u240 u241 u242 u243 u244 u245 u246 u247 u248 u249 u250 u251 u252 u253 u254 u255 u256 u257 u258 u259 u260 u261 u262 u263 u264 u265 u266 u267 u268 u269 u271 u272 u273 u274 u275 u276 u277 u278 u279 u280 u281 u282 u283 u284 u285 u286 u287 u288 u289 u290 u291 u292 u293 u294 u295 u296 u297 u298 u299 u301 u302 u303 u304 u305 u306 u307 u311 u312 u313 u314 u315 u316 u317 u318 u319 u320 u321 u322 u323 u324 u325 u326 u327 u328 u329 u330 u331 hcut
  rcases hcut with ⟨f0, K2, f1, f2, rfl, rfl, rfl, hT⟩ | ⟨q, e1, s1, l2, K2, kA', kB', rfl, rfl, rfl, hc⟩
  · have T2 := Lib.hid hT
    have HU := Lib.hid (used_is Hub.out T2.out.ars)
    have HPn := Lib.hid (pending_is Hpc.out T2.out.ars)
    have e2 : (f0 == 2) = false := by simpa using f2
    have e0 : (f0 == 0) = false := by simpa using f1
    have e0' : (f0 != 0) = true := by simpa using f1
    clear hT f1 f2
    go_wp2_with fail
    refine HU.out.mono ?_
    rintro e w8 ⟨rfl, rfl⟩
    go_wp2_with fail
    refine HPn.out.mono ?_
    rintro e w8 ⟨rfl, rfl⟩
    go_wp2_with fail
    go_meet
    case rel => exact at_ T2.out.next
  · by_cases e0 : e1 = 0
    · subst e0
      have C := Lib.hid hc
      have D := Lib.hid (hc.did Hs.out (by have := Hlt.out; omega))
      have HLn := Lib.hid (tlen_is HL.out (D.out.gd.goodb (by simp) D.out.mb) (by decide) D.out.lh (.inr (.inl (List.mem_cons_of_mem _ List.mem_cons_self))) (by omega) C.out.ars)
      clear hc
      go_wp2_with fail
      refine HLn.out.mono ?_
      rintro e w8 ⟨rfl, ha, hb⟩
      have A8 := Lib.hid ha
      have K8 := Lib.hid (Kept.of_below hb K2)
      clear ha hb HLn
      by_cases hh : h = 0
      · have h0 : (h == 0) = true := by simpa using hh
        have h1 : (h != 0) = false := by simpa using hh
        have NX := Lib.hid (D.out.next _ (by rw [D.out.same hh]; exact A8.out) K8.out)
        clear hh
        go_wp2_with fail
        go_meet
        case rel => exact at_ NX.out
      · have h0 : (h == 0) = false := by simpa using hh
        have h1 : (h != 0) = true := by simpa using hh
        have HD := Lib.hid (drop_is h (D.out.drop hh) A8.out (snd_fit D.out.snd))
        clear hh
        go_wp2_with fail
        refine HD.out.mono ?_
        rintro e w9 ⟨rfl, ha, hk⟩
        have NX := Lib.hid (D.out.next _ ha (K8.out.trans hk))
        clear ha hk HD
        go_wp2_with fail
        go_meet
        case rel => exact at_ NX.out
    · obtain ⟨rfl, rfl, hT⟩ := hc.full Hs.out e0
      clear e0 hc
      have sn := hT.good (by have := Hlt.out; omega)
      have T2 := Lib.hid hT
      have HW := Lib.hid (work_is (B := 100000000000) 1073741824 (s := s1) (s' := (s1.work 1073741824).1) (n := (s1.work 1073741824).2) rfl rfl hT.ars sn (by decide) (by decide))
      clear hT sn
      go_wp2_with fail
      refine HW.out.mono ?_
      rintro e w8 ⟨rfl, ha, hk⟩
      have T3 := Lib.hid (T2.out.work 1073741824 ha hk)
      have wt0 := work_none 1073741824 _ T2.out.gd (by have := T2.out.gd.busy_le; have := T2.out.n; omega)
      obtain ⟨u3, hu3⟩ : ∃ u3 : Nat, (s1.work 1073741824).1.busy = (u3 : Int) := Int.eq_ofNat_of_zero_le T3.out.gd.busy_le.1
      have u3I : (u3 : Int) ≤ 200 := by have := T3.out.gd.busy_le.2; have := T3.out.n; omega
      have HU := Lib.hid (used_is hu3 T3.out.ars)
      have HR := Lib.hid (reach_len (n := u3) (T3.out.alloc (.cells #[.int .i64 h] 3)).ars (snd_fit (T3.out.good (by have := Hlt.out; omega))) (ints_one w8 h) (by show 1 ≤ 100; omega) (fun zs a b => by have := busy_reach T3.out.gd wt0 (R := [h]) (fun _ h => h) a b; omega))
      clear ha hk HW wt0 hu3
      go_wp2_with fail
      refine HU.out.mono ?_
      rintro e w9 ⟨rfl, rfl⟩
      go_wp2_with fail
      refine HR.out.mono ?_
      rintro e w10 ⟨⟨ra, rc, rfl⟩, hb⟩
      have T4 := Lib.hid ((T3.out.alloc (.cells #[.int .i64 h] 3)).below hb)
      clear hb HR
      go_wp2_with fail
      go_meet
      case rel => exact at_ T4.out
end Go.Proofs.Ytcdmebjggdhhdaa.tablePlays
