/- TablePlays, a round's operation: At, Place, Work and none; Add and Cut are left with statements of their own. -/
import Derived.Test.YtcdmebjggdhhdaaTp0
namespace Go.Proofs.Ytcdmebjggdhhdaa.tablePlays
open Go.ChangeShapes Go.WideShapes Go.ChangeAt Go.RowKit
set_option linter.unusedVariables false
set_option maxRecDepth 100000 in
set_option maxHeartbeats 16000000 in
noncomputable def stage1 : PSigma fun T1 : Prop => PSigma fun T2 : Prop => PSigma fun T3 : Prop => PSigma fun T4 : Prop => (T1 → T2 → T3 → T4 → stage0.1) := by
  apply PSigma.mk
  apply PSigma.mk
  apply PSigma.mk
  apply PSigma.mk
  focus
    intro ST1 ST2 ST3 ST4
    replace ST1 := Lib.hid ST1
    replace ST2 := Lib.hid ST2
    replace ST3 := Lib.hid ST3
    replace ST4 := Lib.hid ST4
    intro m row w HA vc hl h3 h3' N w0 _ h1 h2 w1 w2 p ha _ _ wr u4 u10 u11 u12 u13 u14 u15 u16 u17 u18 u19 u20 u21 u22 u23 u24 u25 u26 u28 u52 u53 u54 u55 u56 u57 u58 u59 u60 u61 u62 u63 u64 u65 u66 u67 u68 u69 u70 u71 u72 u73 u74 u75 u76 u77 u78 u79 u80 u81 u82 u83 u84 u85 u86 u87 u88 u89 u90 u91 u92 u93 u94 u95 u96 u97 u98 u99 u100 u101 u102 u103 u104 u105 u106 u107 u108 u109 u110 u111 u112 u113 u114 u115 u116 u117 u118 u119 u120 u121 u122 u123 u124 u125 u126 u127 u128 u129 u130 u131 u132 u133 u134 u135 u136 u137 u138 u139 u140 u141 u142 u143 u144 u145 u146 u147 u148 u149 u150 u151 u152 u153 u154 u155 u156 u157 u158 u159 u160 u161 u162 u163 u164 u165 u166 u167 u168 u169 u170 u171 u172 u173 u174 u175 u176 u177 u178 u179 u180 u181 u182 u183 u184 u185 u186 u187 u188 u189 u190 u191 u192 u193 u194 u195 u196 u197 u198 u199 u200 u201 u202 u203 u204 u205 u206 u207 u208 u209 u210 u211 u212 u213 u214 u215 u216 u217 u218 u219 u220 u221 u222 u223 u224 u225 u226 u227 u228 u229 u230 u231 u232 u233 u234 u235 u236 u237 u238 u239 u240 u241 u242 u243 u244 u245 u246 u247 u248 u249 u250 u251 u252 u253 u254 u255 u256 u257 u258 u259 u260 u261 u262 u263 u264 u265 u266 u267 u268 u269 u270 u271 u272 u273 u274 u275 u276 u277 u278 u279 u280 u281 u282 u283 u284 u285 u286 u287 u288 u289 u290 u291 u292 u293 u294 u295 u296 u297 u298 u299 u300 u301 u302 u303 u304 u305 u306 u307 u308 u309 u310 u311 u312 u313 u314 u315 u316 u317 u318 u319 u320 u321 u322 u323 u324 u325 u326 u327 u328 u329 u330 u331 j j1 hlt ba off hba h K k1 k2 s l L HL a1 c1 a2 c2 kd wkd id wid nn wnn Hx hmc K1 k bb Hp hL10 Hlt xs HPl HPb Hxl _ _ _ z zK _ wr u12 u13 u58 u59 u60 u61 u62 u63 u64 u65 u66 u67 Hs Hids Hbx d0 d1 d2 zlt pu b1 hu Hpu b2 HP0 hul Hpl ub ubI pc pc0 pcI Hpc Hub _ _ _ _ _ _ _ _ _
    have G := Lib.hid (Hs.out.gd.goodb (by simp) (by have := Hs.out.mb; have := Hlt.out; omega))
    by_cases q1 : kd = 1
    · subst q1
      have M3 := Lib.hid Hs.out.bel.size
      have I1 := Lib.hid Hs.out.ids.ints
      have I3 := Lib.hid (show ([] : List Int).length + (l.map Prod.fst).length ≤ 1000000000 by have := Hs.out.ten; simp; omega)
      have I4 := Lib.hid (show ([] : List Int).length + (l.map Prod.snd).length ≤ 1000000000 by have := Hs.out.ten; simp; omega)
      go_wp2_with (at_builtin; refine wpList_append_any (B := w.heap.size) (K := fun _ => False) (xs := []) (Lst.nil _ _ _) (fun b h => h.elim) M3.out I1.out I3.out rfl (.const (.slice none 0 0)) (.tmp 78) rfl rfl rfl ?_)
      intro v5 w5 kA hp1
      have P1 := Lib.hid hp1
      have I2 := Lib.hid ((Hs.out.below hp1.fresh.1).lens.ints)
      have M5 := Lib.hid (Nat.le_trans M3.out hp1.size)
      clear hp1
      go_wp2_with (at_builtin; refine wpList_append_any (B := w.heap.size) (K := fun _ => False) (xs := []) (Lst.nil _ _ _) (fun b h => h.elim) M5.out I2.out I4.out rfl (.const (.slice none 0 0)) (.tmp 80) rfl rfl rfl ?_)
      intro v6 w6 kB hp2
      obtain ⟨hT6, hN6, hB6, hF6⟩ := Hs.out.copies P1.out hp2
      have F6 := Lib.hid hF6
      clear hF6
      have T6 := Lib.hid hT6
      have N6 := Lib.hid hN6
      have K1K := Lib.hid (show ∀ x, K1 x → (fun x => K1 x ∨ kA x ∨ kB x) x from fun x hx => .inl hx)
      have KA := Lib.hid (show ∀ x, kA x → (fun x => K1 x ∨ kA x ∨ kB x) x from fun x hx => .inr (.inl hx))
      have KB := Lib.hid (show ∀ x, kB x → (fun x => K1 x ∨ kA x ∨ kB x) x from fun x hx => .inr (.inr hx))
      have zK6 := Lib.hid (show (fun x => K1 x ∨ kA x ∨ kB x) z from .inl zK.out)
      clear hT6
      generalize (fun x => K1 x ∨ kA x ∨ kB x) = K6 at T6 K1K KA KB zK6
      have zlt6 : z < w6.heap.size := Nat.lt_of_lt_of_le zlt hB6.size
      have f0 : w6.cell? ⟨z, 0, none⟩ = some (.int .i64 1) := (hB6.cell zlt).trans d0
      have f1 : w6.cell? ⟨z, 1, none⟩ = some (.int .i64 id) := (hB6.cell zlt).trans d1
      have f2 : w6.cell? ⟨z, 2, none⟩ = some (.int .i64 nn) := (hB6.cell zlt).trans d2
      clear hN6 hB6 hp2 P1 I1 I2 I3 I4 M3 M5 d0 d1 d2
      go_upto_if 84 with fail
      go_cut [15, 16, 17, 18, 19] (fun g e f a b W => Told w p j k1 k2 s h l (.slice a1 L c1) (.slice a2 L c2) g e f a b W)
      case first =>
        clear ST2 ST3 ST4
        repeat (first | exact ST1.out | revert ‹_›)
      case rest =>
        clear ST1 ST3 ST4
        repeat (first | exact ST2.out | revert ‹_›)
    have q1' : (kd == 1) = false := by simpa using q1
    by_cases q2 : kd = 2
    · subst q2
      clear q1
      have M3 := Lib.hid Hs.out.bel.size
      have I1 := Lib.hid Hs.out.ids.ints
      have I3 := Lib.hid (show ([] : List Int).length + (l.map Prod.fst).length ≤ 1000000000 by have := Hs.out.ten; simp; omega)
      have I4 := Lib.hid (show ([] : List Int).length + (l.map Prod.snd).length ≤ 1000000000 by have := Hs.out.ten; simp; omega)
      go_wp2_with (at_builtin; refine wpList_append_any (B := w.heap.size) (K := fun _ => False) (xs := []) (Lst.nil _ _ _) (fun b h => h.elim) M3.out I1.out I3.out rfl (.const (.slice none 0 0)) (.tmp 78) rfl rfl rfl ?_)
      intro v5 w5 kA hp1
      have P1 := Lib.hid hp1
      have I2 := Lib.hid ((Hs.out.below hp1.fresh.1).lens.ints)
      have M5 := Lib.hid (Nat.le_trans M3.out hp1.size)
      clear hp1
      go_wp2_with (at_builtin; refine wpList_append_any (B := w.heap.size) (K := fun _ => False) (xs := []) (Lst.nil _ _ _) (fun b h => h.elim) M5.out I2.out I4.out rfl (.const (.slice none 0 0)) (.tmp 80) rfl rfl rfl ?_)
      intro v6 w6 kB hp2
      obtain ⟨hT6, hN6, hB6, hF6⟩ := Hs.out.copies P1.out hp2
      have F6 := Lib.hid hF6
      clear hF6
      have T6 := Lib.hid hT6
      have N6 := Lib.hid hN6
      have K1K := Lib.hid (show ∀ x, K1 x → (fun x => K1 x ∨ kA x ∨ kB x) x from fun x hx => .inl hx)
      have KA := Lib.hid (show ∀ x, kA x → (fun x => K1 x ∨ kA x ∨ kB x) x from fun x hx => .inr (.inl hx))
      have KB := Lib.hid (show ∀ x, kB x → (fun x => K1 x ∨ kA x ∨ kB x) x from fun x hx => .inr (.inr hx))
      have zK6 := Lib.hid (show (fun x => K1 x ∨ kA x ∨ kB x) z from .inl zK.out)
      clear hT6
      generalize (fun x => K1 x ∨ kA x ∨ kB x) = K6 at T6 K1K KA KB zK6
      have zlt6 : z < w6.heap.size := Nat.lt_of_lt_of_le zlt hB6.size
      have f0 : w6.cell? ⟨z, 0, none⟩ = some (.int .i64 2) := (hB6.cell zlt).trans d0
      have f1 : w6.cell? ⟨z, 1, none⟩ = some (.int .i64 id) := (hB6.cell zlt).trans d1
      have f2 : w6.cell? ⟨z, 2, none⟩ = some (.int .i64 nn) := (hB6.cell zlt).trans d2
      clear hN6 hB6 hp2 P1 I1 I2 I3 I4 M3 M5 d0 d1 d2
      go_upto_if 84 with fail
      go_cut [15, 16, 17, 18, 19] (fun g e f a b W => Told w p j k1 k2 s h l (.slice a1 L c1) (.slice a2 L c2) g e f a b W)
      case first =>
        clear ST4 ST1 ST2
        repeat (first | exact ST3.out | revert ‹_›)
      case rest =>
        clear ST3 ST1 ST2
        repeat (first | exact ST4.out | revert ‹_›)
    have q2' : (kd == 2) = false := by simpa using q2
    by_cases q3 : kd = 3
    · subst q3
      clear q1 q2 ST1 ST2 ST3 ST4
      as_aux_lemma =>
        have hin : nn < 0 ∨ (L : Int) ≤ nn ∨ (0 ≤ nn ∧ nn < (L : Int)) := by omega
        by_cases hout : nn < 0 ∨ (L : Int) ≤ nn
        · have H := Lib.hid (at_no (i := nn) (by rw [HL.out]; exact hout) G.out (by decide) Hs.out.lh (.inr (.inl List.mem_cons_self)) Hs.out.docs Hs.out.ars)
          by_cases n0 : nn < 0
          · go_wp2_with fail
            refine H.out.mono ?_
            rintro e w5 ⟨rfl, hb⟩
            have d2' : w5.cell? ⟨z, 2, none⟩ = some (.int .i64 nn) := (hb.cell zlt).trans d2
            have B5 := Lib.hid hb
            clear hb H hout hin d0 d1 d2
            go_wp2_with fail
            go_meet
            case rel => exact at_ (Hs.out.below B5.out).next
          · have n1 : (L : Int) ≤ nn := by omega
            go_wp2_with fail
            refine H.out.mono ?_
            rintro e w5 ⟨rfl, hb⟩
            have d2' : w5.cell? ⟨z, 2, none⟩ = some (.int .i64 nn) := (hb.cell zlt).trans d2
            have B5 := Lib.hid hb
            clear hb H hout hin d0 d1 d2
            go_wp2_with fail
            go_meet
            case rel => exact at_ (Hs.out.below B5.out).next
        · obtain ⟨i, rfl⟩ := Int.eq_ofNat_of_zero_le (show 0 ≤ nn by omega)
          have hiL : i < L := by omega
          obtain ⟨y, hy⟩ : ∃ y, l[i]? = some y := ⟨_, List.getElem?_eq_getElem (by rw [HL.out]; exact hiL)⟩
          have H := Lib.hid (at_is (i := i) (a := y.1) (b := y.2) hy G.out (by decide) Hs.out.lh (.inr (.inl List.mem_cons_self)) Hs.out.docs Hs.out.ars)
          obtain ⟨g1, cp1, hsl1, hcp1, hKg1, hcl1⟩ := Hs.out.ids.at_ (i := i) (by rw [List.length_map, HL.out]; exact hiL)
          obtain ⟨g2, cp2, hsl2, hcp2, hKg2, hcl2⟩ := Hs.out.lens.at_ (i := i) (by rw [List.length_map, HL.out]; exact hiL)
          have cy1 := hcl1 i (by rw [List.length_map, HL.out]; exact hiL)
          have cy2 := hcl2 i (by rw [List.length_map, HL.out]; exact hiL)
          rw [getD_fst, List.getD_eq_getElem?_getD, hy] at cy1
          rw [getD_snd, List.getD_eq_getElem?_getD, hy] at cy2
          have hga1 : a1 = some ⟨g1, 0, none⟩ := by injection hsl1
          have hga2 : a2 = some ⟨g2, 0, none⟩ := by injection hsl2
          subst hga1 hga2
          have lg1 := Hs.out.klt g1 (Hs.out.sub1 g1 hKg1)
          have lg2 := Hs.out.klt g2 (Hs.out.sub2 g2 hKg2)
          have gL : (i : Int) < (L : Int) := by omega
          clear hsl1 hsl2 hcl1 hcl2 hcp1 hcp2 hKg1 hKg2 hy hout hin
          go_wp2_with fail
          refine H.out.mono ?_
          rintro e w5 ⟨rfl, hb⟩
          have d2' : w5.cell? ⟨z, 2, none⟩ = some (.int .i64 (i : Int)) := (hb.cell zlt).trans d2
          have cy1' : w5.cell? ⟨g1, i, none⟩ = some (.int .i64 y.1) := (hb.cell (p := ⟨g1, i, none⟩) lg1).trans cy1
          have cy2' : w5.cell? ⟨g2, i, none⟩ = some (.int .i64 y.2) := (hb.cell (p := ⟨g2, i, none⟩) lg2).trans cy2
          have B5 := Lib.hid hb
          clear hb H d0 d1 d2 cy1 cy2
          obtain ⟨y1, y2⟩ := y
          go_wp2_with fail
          go_meet
          case rel => exact at_ (Hs.out.below B5.out).next
    have q3' : (kd == 3) = false := by simpa using q3
    by_cases q4 : kd = 4
    · subst q4
      clear q1 q2 q3 ST1 ST2 ST3 ST4
      as_aux_lemma =>
        have H := Lib.hid (place_is Hp.out G.out (by decide) Hs.out.lh (.inr (.inl List.mem_cons_self)) Hs.out.docs Hs.out.ars)
        cases bb
        · have hpu : pu = -1 := Hpl.out.symm
          have hk0 : k = 0 := by rcases Hp.out with ⟨e, _⟩ | ⟨_, e, _⟩; exact absurd e (by decide); exact e
          subst hpu hk0
          go_wp2_with fail
          refine H.out.mono ?_
          rintro e w5 ⟨rfl, hb⟩
          have B5 := Lib.hid hb
          clear hb H
          go_wp2_with fail
          go_meet
          case rel => exact at_ (Hs.out.below B5.out).next
        · have hpu : pu = (k : Int) := Hpl.out.symm
          subst hpu
          go_wp2_with fail
          refine H.out.mono ?_
          rintro e w5 ⟨rfl, hb⟩
          have B5 := Lib.hid hb
          clear hb H
          go_wp2_with fail
          go_meet
          case rel => exact at_ (Hs.out.below B5.out).next
    have q4' : (kd == 4) = false := by simpa using q4
    by_cases q5 : kd = 5
    · subst q5
      clear q1 q2 q3 q4 ST1 ST2 ST3 ST4
      as_aux_lemma =>
        have sn := Hs.out.good (by have := Hlt.out; omega)
        have H := Lib.hid (work_is (B := 100000000000) nn (s := s) (s' := (s.work nn.toNat).1) (n := (s.work nn.toNat).2) rfl rfl Hs.out.ars sn (by decide) (bounds_i64 wnn).2)
        clear sn
        go_wp2_with fail
        refine H.out.mono ?_
        rintro e w5 ⟨rfl, ha, hk⟩
        have T5 := Lib.hid (Hs.out.work nn.toNat ha hk)
        clear ha hk H
        go_wp2_with fail
        go_meet
        case rel => exact at_ T5.out
    have q5' : (kd == 5) = false := by simpa using q5
    clear q1 q2 q3 q4 q5
    go_wp2_with fail
    go_meet
    case rel => exact at_ Hs.out.next
end Go.Proofs.Ytcdmebjggdhhdaa.tablePlays
