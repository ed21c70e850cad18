/- Snapshots: what the methods of pins answer, and what they leave. -/
import Derived.Test.YtjndhjmbdhfclaaP1
import Derived.Test.YtjndhjmbdhfclaaLst
import Derived.OwnWalk
namespace Go.Proofs.Ytjndhjmbdhfclaa
set_option maxRecDepth 100000
open Go.RowKit Go.Maps

/-- The pins lie at block P, over the cell at q and the arena s at p; their map is mb. -/
structure Pin (w : World) (K : Nat → Prop) (P q p mb : Nat) (s : Ar) (r n f : Int) (es : List (Int × Int × Int)) (last : Int) : Prop where
  hP : w.heap[P]? = some (.cells #[.pointer (some ⟨p, 0, none⟩), .pointer (some ⟨q, 0, none⟩), .map (some mb), .int .i64 last] 83 (0, 0))
  map : PMap w mb es
  kP : ¬ K P
  km : ¬ K mb
  cel : Cel w (fun b => K b ∨ b = P ∨ b = mb) q p s r n f
  top : ∀ k, k ∈ es.map (·.1) → 1 ≤ k ∧ k ≤ last
  ne : P ≠ mb

section
variable {w w' : World} {K : Nat → Prop} {P q p mb : Nat} {s s' : Ar} {r n f : Int} {es : List (Int × Int × Int)} {last : Int}
theorem Pin.cell (h : Pin w K P q p mb s r n f es last) (i : Nat) : w.cell? ⟨P, i, none⟩ = (#[.pointer (some ⟨p, 0, none⟩), .pointer (some ⟨q, 0, none⟩), .map (some mb), .int .i64 last] : Array Value)[i]? := cell_of_row _ _ _ _ _ _ h.hP
theorem Pin.c0 (h : Pin w K P q p mb s r n f es last) : w.cell? ⟨P, 0, none⟩ = some (.pointer (some ⟨p, 0, none⟩)) := h.cell 0
theorem Pin.c1 (h : Pin w K P q p mb s r n f es last) : w.cell? ⟨P, 1, none⟩ = some (.pointer (some ⟨q, 0, none⟩)) := h.cell 1
theorem Pin.c2 (h : Pin w K P q p mb s r n f es last) : w.cell? ⟨P, 2, none⟩ = some (.map (some mb)) := h.cell 2
theorem Pin.c3 (h : Pin w K P q p mb s r n f es last) : w.cell? ⟨P, 3, none⟩ = some (.int .i64 last) := h.cell 3
theorem Pin.fz (h : Pin w K P q p mb s r n f es last) (i : Nat) : w.frozen? ⟨P, i, none⟩ = false := frozen_of_row _ _ _ _ _ h.hP
/-- The cell, or the arena, has changed. -/
theorem Pin.turn {r' n' f' : Int} (h : Pin w K P q p mb s r n f es last) (hc : Cel w' (fun b => K b ∨ b = P ∨ b = mb) q p s' r' n' f') (hk : Kept (fun b => K b ∨ b = P ∨ b = mb) w w') : Pin w' K P q p mb s' r' n' f' es last :=
  ⟨(hk.block P (lt_heap h.hP) (.inr (.inl rfl))).trans h.hP, h.map.same (hk.block mb h.map.lt (.inr (.inr rfl))), h.kP, h.km, hc, h.top, h.ne⟩
theorem Pin.below (h : Pin w K P q p mb s r n f es last) (hb : Below w.heap.size w w') : Pin w' K P q p mb s r n f es last := h.turn (h.cel.below hb) (Kept.of_below hb _)
theorem Pin.alloc (h : Pin w K P q p mb s r n f es last) (o : Obj) : Pin (w.alloc o) K P q p mb s r n f es last := h.below ((Below.refl _ _).alloc (Nat.le_refl _) o)
theorem Pin.drew (h : Pin w K P q p mb s r n f es last) : Pin w.drew K P q p mb s r n f es last := h.below (Below.refl _ _).drew
theorem Pin.drewN (h : Pin w K P q p mb s r n f es last) (m : Nat) : Pin (w.drewN m) K P q p mb s r n f es last := h.below ⟨rfl, rfl, rfl, Nat.le_refl _, fun _ _ => rfl⟩
theorem Pin.Plt (h : Pin w K P q p mb s r n f es last) : P < w.heap.size := lt_heap h.hP
/-- A write to the map. -/
theorem Pin.mapped {es' : List (Int × Int × Int)} (h : Pin w K P q p mb s r n f es last) (hm : PMap w' mb es') (hg : w.grownBy w' (some mb)) (ht : ∀ k, k ∈ es'.map (·.1) → 1 ≤ k ∧ k ≤ last) : Pin w' K P q p mb s r n f es' last := by
  refine ⟨(hg.block P (lt_heap h.hP) fun e => by cases e; exact h.ne rfl).trans h.hP, hm, h.kP, h.km, ?_, ht, h.ne⟩
  exact h.cel.step hg.size (fun b hb hn => hg.block b hb fun e => by cases e; exact hn (.inr (.inr rfl))) fun b hb => ⟨Nat.lt_of_lt_of_le (h.cel.ars.lt b (.inl hb)) hg.size, .inl hb⟩
theorem Pin.set3 (h : Pin w K P q p mb s r n f es last) {v : Int} (hv : last ≤ v) : Pin (w.setCell ⟨P, 3, none⟩ (.int .i64 v)) K P q p mb s r n f es v := by
  refine ⟨by rw [heap_setCell_same _ _ _ _ _ _ h.hP]; rfl, h.map.same (heap_setCell_other _ _ _ _ fun e => h.ne e.symm), h.kP, h.km, ?_, fun k hk => by have := h.top k hk; omega, h.ne⟩
  exact h.cel.step (by simp [World.setCell]) (fun b hb hn => Below.heap_setCell _ _ _ _ (by rintro rfl; exact hn (.inr (.inl rfl)))) fun b hb => ⟨by have := h.cel.ars.lt b (.inl hb); simpa [World.setCell] using this, .inl hb⟩
theorem Pin.setK (h : Pin w K P q p mb s r n f es last) {b : Nat} (hb : K b) (i : Nat) (v : Value) : Pin (w.setCell ⟨b, i, none⟩ v) K P q p mb s r n f es last := by
  refine ⟨(heap_setCell_other _ _ _ _ (by rintro rfl; exact h.kP hb)).trans h.hP, h.map.same (heap_setCell_other _ _ _ _ (by rintro rfl; exact h.km hb)), h.kP, h.km, ?_, h.top, h.ne⟩
  exact h.cel.step (by simp [World.setCell]) (fun c _ hn => Below.heap_setCell _ _ _ _ (by rintro rfl; exact hn (.inl hb))) fun c hc => ⟨by have := h.cel.ars.lt c (.inl hc); simpa [World.setCell] using this, .inl hc⟩
theorem Pin.moreK {K' : Nat → Prop} (h : Pin w K P q p mb s r n f es last) (hk : ∀ b, K' b → K b) : Pin w K' P q p mb s r n f es last := by
  refine ⟨h.hP, h.map, fun e => h.kP (hk _ e), fun e => h.km (hk _ e), ?_, h.top, h.ne⟩
  exact h.cel.step (Nat.le_refl _) (fun _ _ _ => rfl) fun c hc => ⟨h.cel.ars.lt c (.inl (hc.imp (hk c) id)), .inl (hc.imp (hk c) id)⟩
/-- A new block of the caller's own. -/
theorem Pin.newK {K' : Nat → Prop} (h : Pin w K P q p mb s r n f es last) (hb : Below w.heap.size w w') (hk : ∀ b, K' b → b < w'.heap.size ∧ (K b ∨ w.heap.size ≤ b)) : Pin w' K' P q p mb s r n f es last := by
  have g := h.below hb
  refine ⟨g.hP, g.map, fun e => ?_, fun e => ?_, h.cel.newK hb fun b e => ?_, h.top, h.ne⟩
  · rcases (hk P e).2 with x | x
    · exact h.kP x
    · have := h.Plt; omega
  · rcases (hk mb e).2 with x | x
    · exact h.km x
    · have := h.map.lt; omega
  · rcases e with e | e
    · obtain ⟨a, c⟩ := hk b e
      exact ⟨a, c.imp .inl id⟩
    · refine ⟨?_, .inl (.inr e)⟩
      rcases e with rfl | rfl
      · exact lt_heap g.hP
      · exact g.map.lt
theorem Pin.allocK (h : Pin w K P q p mb s r n f es last) (o : Obj) : Pin (w.alloc o) (fun b => K b ∨ b = w.heap.size) P q p mb s r n f es last :=
  h.newK ((Below.refl _ _).alloc (Nat.le_refl _) _) fun b hb => by
    rcases hb with hb | rfl
    · exact ⟨by have := h.cel.ars.lt b (.inl (.inl hb)); simp; omega, .inl hb⟩
    · exact ⟨by simp, .inr (Nat.le_refl _)⟩
theorem Pin.klt (h : Pin w K P q p mb s r n f es last) : ∀ b, K b → b < w.heap.size := fun b hb => h.cel.ars.lt b (.inl (.inl hb))

set_option maxHeartbeats 1000000 in
theorem pnew_is (ha : Cel w K q p s r n f) :
    Calls Try.prog 23 #[.pointer (some ⟨p, 0, none⟩), .pointer (some ⟨q, 0, none⟩)] w fun e w' => ∃ P mb, e = .returned (.pointer (some ⟨P, 0, none⟩)) ∧ Pin w' K P q p mb s r n f [] 0 ∧ Below w.heap.size w w' := by
  have Ha := Lib.hid ha
  clear ha
  have hmm := @run_makeMap Try.prog
  go_enter Try.func23, Try.ntmps23
  go_wp2_with fail
  go_ret
  have hm := PMap.new w
  have hb1 : Below w.heap.size w (w.alloc (.map #[] 0)) := (Below.refl _ _).alloc (Nat.le_refl _) _
  have hl := Ha.out.ars.lt
  refine ⟨_, w.heap.size, rfl, ⟨by have := heap_alloc_new (w.alloc (.map #[] 0)) (.cells #[.pointer (some ⟨p, 0, none⟩), .pointer (some ⟨q, 0, none⟩), .map (some w.heap.size), .int .i64 0] 83); rwa [show (w.alloc (.map #[] 0)).heap.size = w.heap.size + 1 by simp] at this, hm.same (Below.heap_alloc _ _ _ hm.lt), fun h => ?_, fun h => ?_, ?_, fun k hk => (by cases hk), by simp⟩, hb1.alloc hb1.size _⟩
  · have := hl _ (.inl h); omega
  · have := hl _ (.inl h); omega
  · refine Ha.out.newK (hb1.alloc hb1.size _) fun b hb => ?_
    rcases hb with hb | rfl | rfl
    · exact ⟨by have := hl b (.inl hb); simp; omega, .inl hb⟩
    · exact ⟨by simp, .inr (by simp)⟩
    · exact ⟨by simp; omega, .inr (Nat.le_refl _)⟩
set_option maxHeartbeats 1000000 in
theorem pnew_nil1 (v : Option Addr) (w : World) : Calls Try.prog 23 #[.pointer none, .pointer v] w fun e w' => e = .returned (.pointer none) ∧ w = w' := by
  go_enter Try.func23, Try.ntmps23
  go_wp2
  go_ret
  exact ⟨rfl, rfl⟩
set_option maxHeartbeats 1000000 in
theorem pnew_nil2 (a : Addr) (w : World) : Calls Try.prog 23 #[.pointer (some a), .pointer none] w fun e w' => e = .returned (.pointer none) ∧ w = w' := by
  go_enter Try.func23, Try.ntmps23
  go_wp2
  go_ret
  exact ⟨rfl, rfl⟩

/-- 'm[k] = x', at whatever step. -/
theorem step_pmap_put {w : World} (h : PMap w mb es) (hn : es.length ≤ 1000000) {k x y : Int} (hk : (Lit.int .i64 k).wf = true) (hnew : ¬ k ∈ es.map (·.1)) {ops : Array Oper} {o : Oper} {a : Act} {Kc : Act → World → Prop} {Q : Exit → Act → World → Prop} {E : Prop} (hgd : o.guard = none) (m i v : Operand)
    (ho : o.op = Op.mapUpdate 81 m i v) (h1 : a.eval m = .map (some mb)) (h2 : a.eval i = .int .i64 k) (h3 : a.eval v = .agg #[.int .i64 x, .int .i64 y])
    (hK : ∀ w', PMap w' mb (es ++ [(k, x, y)]) → w.grownBy w' (some mb) → Kc (a.put o.dst undef) w') :
    if Region.wanted o (yielded ops a.tmps) = true then Oper.wp Try.prog o a w Kc Q else E := by
  have hw : Region.wanted o (yielded ops a.tmps) = true := by simp [Region.wanted, hgd]
  rw [if_pos hw]
  obtain ⟨w', hrun, r1, r2⟩ := h.put hn hk hnew (x := x) (y := y)
  unfold Oper.wp
  simp [execOp, ho, h1, h2, h3, hrun, Result.andThen]
  exact hK w' r1 r2
theorem wpList_pmap_look {w : World} (h : PMap w mb es) {k : Int} (hk : (Lit.int .i64 k).wf = true) {ops : Array Oper} {rest : List Oper} {o : Oper} {a : Act} {Q : Exit → Act → World → Prop} (hgd : o.guard = none) (m i : Operand)
    (ho : o.op = Op.lookup 81 m i true) (h1 : a.eval m = .map (some mb)) (h2 : a.eval i = .int .i64 k)
    (hK : wpList Try.prog ops Q rest (a.put o.dst (.tuple #[.agg #[.int .i64 (plook es k).1, .int .i64 (plook es k).2], .bool (phas es k)])) w) : wpList Try.prog ops Q (o :: rest) a w := by
  refine wpList_plain hgd fun K' hK' => ?_
  have hrun := h.look hk
  unfold Oper.wp
  simp [execOp, ho, h1, h2, hrun, Result.andThen]
  exact hK' _ _ hK
theorem wpList_pmap_len {w : World} (h : PMap w mb es) {ops : Array Oper} {rest : List Oper} {o : Oper} {a : Act} {Q : Exit → Act → World → Prop} (hgd : o.guard = none) (m : Operand)
    (ho : o.op = Op.call { callee := Callee.builtin Builtin.len, args := #[m], argTypes := #[81] }) (h1 : a.eval m = .map (some mb))
    (hK : wpList Try.prog ops Q rest (a.put o.dst (.int .i64 es.length)) w) : wpList Try.prog ops Q (o :: rest) a w := by
  refine wpList_plain hgd fun K' hK' => ?_
  have hrun := h.len o.type
  unfold Oper.wp
  simp [execOp, ho, resolve, invoke, builtin, h1, hrun, Result.andThen]
  exact hK' _ _ hK
theorem wpList_pmap_del {w : World} (h : PMap w mb es) {k : Int} (hk : (Lit.int .i64 k).wf = true) {ops : Array Oper} {rest : List Oper} {o : Oper} {a : Act} {Q : Exit → Act → World → Prop} (hgd : o.guard = none) (m i : Operand)
    (ho : o.op = Op.call { callee := Callee.builtin Builtin.delete, args := #[m, i], argTypes := #[81, 3] }) (h1 : a.eval m = .map (some mb)) (h2 : a.eval i = .int .i64 k)
    (hK : ∀ w', PMap w' mb (pcut es k) → w.grownBy w' (some mb) → wpList Try.prog ops Q rest (a.put o.dst (.tuple #[])) w') : wpList Try.prog ops Q (o :: rest) a w := by
  refine wpList_plain hgd fun K' hK' => ?_
  obtain ⟨w', hrun, r1, r2⟩ := h.del hk o.type
  unfold Oper.wp
  simp [execOp, ho, resolve, invoke, builtin, h1, h2, hrun, Result.andThen]
  exact hK' _ _ (hK w' r1 r2)

set_option maxHeartbeats 1000000 in
theorem proot_nil (k : Int) (w : World) : Calls Try.prog 28 #[.pointer none, .int .i64 k] w fun e w' => e = .returned (.tuple #[.int .i64 0, .int .i64 0, .bool false]) ∧ w = w' := by
  go_enter Try.func28, Try.ntmps28
  go_wp2
  go_ret3
  exact ⟨rfl, rfl⟩
set_option maxHeartbeats 1000000 in
theorem proot_is {k : Int} (hk : (Lit.int .i64 k).wf = true) (h : Pin w K P q p mb s r n f es last) :
    Calls Try.prog 28 #[.pointer (some ⟨P, 0, none⟩), .int .i64 k] w fun e w' => e = .returned (.tuple #[.int .i64 (plook es k).1, .int .i64 (plook es k).2, .bool (phas es k)]) ∧ Pin w' K P q p mb s r n f es last ∧ Below w.heap.size w w' := by
  have Hh := Lib.hid h
  have c2 := h.c2
  clear h
  generalize hx : plook es k = x at *
  have Hx := Lib.hid hx
  clear hx
  go_enter Try.func28, Try.ntmps28
  go_wp2_with (at_lookup; refine wpList_pmap_look Hh.out.map hk rfl _ _ rfl rfl rfl ?_)
  rw [Hx.out]
  go_wp2_with fail
  go_quiet (fail)
  go_wp2_with fail
  go_ret3
  have hb : Below w.heap.size w (w.alloc (.cells #[.int .i64 x.1, .int .i64 x.2] 87)) := (Below.refl _ _).alloc (Nat.le_refl _) _
  have hb2 : ∀ m, Below w.heap.size w ((w.alloc (.cells #[.int .i64 x.1, .int .i64 x.2] 87)).drewN m) := fun m => hb.trans ⟨rfl, rfl, rfl, Nat.le_refl _, fun _ _ => rfl⟩
  exact ⟨rfl, Hh.out.below (hb2 _), hb2 _⟩
set_option maxHeartbeats 1000000 in
theorem pclose_nil (k : Int) (w : World) : Calls Try.prog 27 #[.pointer none, .int .i64 k] w fun e w' => e = .returned (.int .i64 6) ∧ w = w' := by
  have H := Lib.hid (proot_nil k w)
  go_enter Try.func27, Try.ntmps27
  go_wp2_with fail
  refine H.out.mono ?_
  rintro e w' ⟨rfl, rfl⟩
  go_wp2_with fail
  go_ret
  exact ⟨rfl, rfl⟩
set_option maxHeartbeats 1000000 in
theorem pclose_no {k : Int} (hk : (Lit.int .i64 k).wf = true) (hno : ¬ k ∈ es.map (·.1)) (h : Pin w K P q p mb s r n f es last) :
    Calls Try.prog 27 #[.pointer (some ⟨P, 0, none⟩), .int .i64 k] w fun e w' => e = .returned (.int .i64 6) ∧ Pin w' K P q p mb s r n f es last ∧ Below w.heap.size w w' := by
  have H0 := proot_is hk h
  rw [plook_none hno, show phas es k = false from decide_eq_false hno] at H0
  have H := Lib.hid H0
  clear H0 h hno
  go_enter Try.func27, Try.ntmps27
  go_wp2_with fail
  refine H.out.mono ?_
  clear H
  rintro e w2 ⟨rfl, h2, b2⟩
  go_wp2_with fail
  go_ret
  exact ⟨rfl, h2, b2⟩
set_option maxHeartbeats 1000000 in
theorem pclose_is {k e0 : Int} (hk : (Lit.int .i64 k).wf = true) (hin : k ∈ es.map (·.1)) (hd : s.drop (plook es k).1 = (s', e0)) (hf : s.Fit) (h : Pin w K P q p mb s r n f es last) :
    Calls Try.prog 27 #[.pointer (some ⟨P, 0, none⟩), .int .i64 k] w fun e w' => e = .returned (.int .i64 0) ∧ Pin w' K P q p mb s' r n f (pcut es k) last ∧ Kept K w w' := by
  have H0 := proot_is hk h
  rw [show phas es k = true from decide_eq_true hin] at H0
  have H := Lib.hid H0
  have Hd := Lib.hid hd
  have Hf := Lib.hid hf
  clear H0 h hin hd hf
  generalize plook es k = x at *
  go_enter Try.func27, Try.ntmps27
  go_wp2_with fail
  refine H.out.mono ?_
  clear H
  rintro e w2 ⟨rfl, h2, b2⟩
  have c0 := h2.c0
  have H1 := Lib.hid (cdrop_is x.1 Hd.out h2.cel Hf.out)
  have H2 := Lib.hid h2
  have B2 := Lib.hid b2
  clear h2 b2
  go_wp2_with fail
  refine H1.out.mono ?_
  clear H1
  rintro e w3 ⟨rfl, h3, k3⟩
  have H3 := Lib.hid (H2.out.turn h3 k3)
  have K3 := Lib.hid k3
  have c2 := H3.out.c2
  clear h3 k3 c0
  go_wp2_with (at_delete; refine wpList_pmap_del H3.out.map hk rfl _ _ rfl rfl rfl ?_)
  intro w4 hm hg
  have H4 := Lib.hid (H3.out.mapped hm hg fun j hj => H3.out.top j (mem_cut.1 hj).1)
  have G4 := Lib.hid hg
  clear hm hg c2
  go_wp2_with fail
  go_ret
  exact ⟨rfl, H4.out, ((Kept.of_below B2.out K).trans K3.out.less).grown G4.out fun k e => by cases e; exact .inl H3.out.km⟩
set_option maxHeartbeats 1000000 in
theorem popen_nil (w : World) : Calls Try.prog 25 #[.pointer none] w fun e w' => e = .returned (.tuple #[.int .i64 0, .int .i64 0, .int .i64 6]) ∧ w = w' := by
  go_enter Try.func25, Try.ntmps25
  go_wp2
  go_ret3
  exact ⟨rfl, rfl⟩
set_option maxHeartbeats 1000000 in
theorem popen_many (hl : 5 ≤ es.length) (h : Pin w K P q p mb s r n f es last) :
    Calls Try.prog 25 #[.pointer (some ⟨P, 0, none⟩)] w fun e w' => e = .returned (.tuple #[.int .i64 0, .int .i64 0, .int .i64 8]) ∧ w = w' := by
  have Hh := Lib.hid h
  have c2 := h.c2
  clear h
  have g : decide ((5 : Int) ≤ (es.length : Int)) = true := by simp; omega
  go_enter Try.func25, Try.ntmps25
  go_wp2_with (at_len; refine wpList_pmap_len Hh.out.map rfl _ rfl rfl ?_)
  go_wp2_with fail
  go_ret3
  exact ⟨rfl, rfl⟩
/-- What Read answers, whatever the version. -/
theorem read_any {e0 : Int} (hs : (r = 0 ∧ s' = s) ∨ (r ≠ 0 ∧ s.keep r = (s', e0))) (hf : s.Fit) (h : Cel w K q p s r n f) :
    Calls Try.prog 44 #[.pointer (some ⟨q, 0, none⟩)] w fun e w' => e = .returned (.tuple #[.int .i64 r, .int .i64 n]) ∧ Cel w' K q p s' r n f ∧ Kept K w w' := by
  rcases hs with ⟨rfl, rfl⟩ | ⟨h1, h2⟩
  · exact (read_zero h).mono fun e w' ⟨a, b, c⟩ => ⟨a, b, Kept.of_below c K⟩
  · exact read_some h1 h2 hf h
set_option maxHeartbeats 2000000 in
theorem popen_is {e0 : Int} (hl : es.length ≤ 4) (h0 : 0 ≤ last) (h1 : last ≤ 1000000000) (hs : (r = 0 ∧ s' = s) ∨ (r ≠ 0 ∧ s.keep r = (s', e0))) (hf : s.Fit) (h : Pin w K P q p mb s r n f es last) :
    Calls Try.prog 25 #[.pointer (some ⟨P, 0, none⟩)] w fun e w' => e = .returned (.tuple #[.int .i64 (last + 1), .int .i64 n, .int .i64 0]) ∧ Pin w' K P q p mb s' r n f (es ++ [(last + 1, r, n)]) (last + 1) ∧ Kept K w w' := by
  have Hh := Lib.hid h
  have c2 := h.c2
  have c1 : ∀ o, (w.alloc o).cell? ⟨P, 1, none⟩ = some (.pointer (some ⟨q, 0, none⟩)) := fun o => (h.alloc o).c1
  have hPw := h.Plt
  have HR := fun o => Lib.hid (read_any hs hf (h.allocK o).cel)
  clear h hs hf
  have g : decide ((5 : Int) ≤ (es.length : Int)) = false := by simp; omega
  obtain ⟨z, hz⟩ : ∃ z, Hid (w.heap.size = z) := ⟨_, rfl⟩
  go_enter Try.func25, Try.ntmps25
  go_wp2_with (at_len; refine wpList_pmap_len Hh.out.map rfl _ rfl rfl ?_)
  go_wp2_with fail
  refine (HR _).out.mono ?_
  clear HR
  rintro e w2 ⟨rfl, hc, hk⟩
  obtain ⟨K1, hK1⟩ : ∃ K1 : Nat → Prop, Hid (K1 = fun b => K b ∨ b = w.heap.size) := ⟨_, rfl⟩
  have HP2 := Lib.hid ((Hh.out.allocK (.cells #[.int .i64 0, .int .i64 0] 87)).turn hc hk)
  have HK2 := Lib.hid (((Kept.refl K w).alloc (.cells #[.int .i64 0, .int .i64 0] 87)).trans (hk.mono (K' := K) fun _ _ h => .inl (.inl h)))
  have hbx : w2.heap[w.heap.size]? = some (.cells #[.int .i64 0, .int .i64 0] 87 (0, 0)) := (hk.block _ (by simp) (.inl (.inr rfl))).trans (heap_alloc_new _ _)
  have Hbx := Lib.hid hbx
  have d0 : w2.cell? ⟨w.heap.size, 0, none⟩ = some (.int .i64 0) := cell_of_row _ _ _ _ _ _ hbx
  have d1 : w2.cell? ⟨w.heap.size, 1, none⟩ = some (.int .i64 0) := cell_of_row _ _ _ _ _ _ hbx
  have df : ∀ i, w2.frozen? ⟨w.heap.size, i, none⟩ = false := fun i => frozen_of_row _ _ _ _ _ hbx
  have e3 := HP2.out.c3
  have e3f := HP2.out.fz 3
  have pne : P ≠ w.heap.size := by omega
  clear hc hk c1 c2 hbx
  go_upto_region 8 with fail
  have hz0 : K1 w.heap.size := by rw [hK1.out]; exact .inr rfl
  rw [← hK1.out] at HP2
  have h3 := ((HP2.out.setK hz0 0 (.int .i64 r)).setK hz0 1 (.int .i64 n)).set3 (v := last + 1) (by omega)
  have k3 := ((HK2.out.setCell (p := ⟨w.heap.size, 0, none⟩) (.inr (Nat.le_refl _)) (.int .i64 r)).setCell (p := ⟨w.heap.size, 1, none⟩) (.inr (Nat.le_refl _)) (.int .i64 n)).setCell (p := ⟨P, 3, none⟩) (.inl Hh.out.kP) (.int .i64 (last + 1))
  have hb3 : (((w2.setCell ⟨w.heap.size, 0, none⟩ (.int .i64 r)).setCell ⟨w.heap.size, 1, none⟩ (.int .i64 n)).setCell ⟨P, 3, none⟩ (.int .i64 (last + 1))).heap[w.heap.size]? = some (.cells #[.int .i64 r, .int .i64 n] 87 (0, 0)) := by
    rw [heap_setCell_other _ _ _ _ pne.symm, heap_setCell_same _ _ _ _ _ _ (heap_setCell_same _ _ _ _ _ _ Hbx.out)]
    rfl
  clear d0 d1 df e3 e3f Hbx HK2 HP2
  generalize (((w2.setCell ⟨w.heap.size, 0, none⟩ (.int .i64 r)).setCell ⟨w.heap.size, 1, none⟩ (.int .i64 n)).setCell ⟨P, 3, none⟩ (.int .i64 (last + 1))) = w3 at *
  obtain ⟨w5, hrun, hm5, hg5⟩ := h3.drew.map.put (k := last + 1) (x := r) (y := n) (by omega) (WalkArith.wf_i64 (by omega)) (fun hk => by have := Hh.out.top _ hk; omega)
  have h5 := h3.drew.mapped hm5 hg5 (fun k hk => by
    rw [List.map_append, List.mem_append] at hk
    rcases hk with hk | hk
    · have := Hh.out.top k hk; omega
    · have : k = last + 1 := by simpa using hk
      omega)
  have hb5 : w5.heap[w.heap.size]? = some (.cells #[.int .i64 r, .int .i64 n] 87 (0, 0)) := (hg5.block _ (lt_heap hb3) fun e => by cases e; exact h3.km hz0).trans hb3
  have a2 := h3.drew.c2
  have a3 := h3.drew.c3
  have a0 : w3.drew.cell? ⟨w.heap.size, 0, none⟩ = some (.int .i64 r) := cell_of_row _ _ _ _ _ _ hb3
  have a1 : w3.drew.cell? ⟨w.heap.size, 1, none⟩ = some (.int .i64 n) := cell_of_row _ _ _ _ _ _ hb3
  have b2 := h5.c2
  have b3 := h5.c3
  have b0 : w5.cell? ⟨w.heap.size, 0, none⟩ = some (.int .i64 r) := cell_of_row _ _ _ _ _ _ hb5
  have b1 : w5.cell? ⟨w.heap.size, 1, none⟩ = some (.int .i64 n) := cell_of_row _ _ _ _ _ _ hb5
  have H5 := Lib.hid h5
  have K5 := Lib.hid (k3.drew.grown hg5 fun k e => by cases e; exact .inl Hh.out.km)
  have Z0 := Lib.hid hz0
  clear h3 k3 hb3 hm5 hg5 h5 hb5 hz0
  go_region_held3 (fun w' => w'.cell? ⟨P, 2, none⟩ = some (.map (some mb)) ∧ w'.cell? ⟨P, 3, none⟩ = some (.int .i64 (last + 1)) ∧ w'.cell? ⟨w.heap.size, 0, none⟩ = some (.int .i64 r) ∧ w'.cell? ⟨w.heap.size, 1, none⟩ = some (.int .i64 n)) (go_keep) (fail)
  all_goals
    go_wp2_with fail
    go_quiet (fail)
    go_wp2_with fail
    go_ret3
    exact ⟨rfl, ((H5.out.moreK fun b hb => by rw [hK1.out]; exact .inl hb).drewN _), K5.out.drewN _⟩
end
end Go.Proofs.Ytjndhjmbdhfclaa
