/- Package sweep: the library's ContainsFunc and DeleteFunc at these closures. -/
import Derived.Test.YtjndhjmbdhfclaaSw4
namespace Go.Proofs.Ytjndhjmbdhfclaa
set_option maxRecDepth 100000
open Go.RowKit Go.Sort

theorem enter_audit : ∀ args w, (callFunc 84 args).run Try.prog w = .ok (.enter 84 args) w := Go.Proofs.enters_of Try.func84 (by kernel_rfl) rfl
theorem enter_leaks : ∀ args w, (callFunc 81 args).run Try.prog w = .ok (.enter 81 args) w := Go.Proofs.enters_of Try.func81 (by kernel_rfl) rfl
theorem get_bang (xs : List Int) (j : Nat) : xs[j]! = xs.getD j 0 := by
  rw [List.getElem!_eq_getElem?_getD, List.getD_eq_getElem?_getD]; rfl
theorem cells_lt {w : World} {b : Nat} {v : Value} (h : w.cell? ⟨b, 0, none⟩ = some v) : b < w.heap.size := block_lt_of_cell h
section
variable {K : Nat → Prop} {p : Nat} {s : Ar} {w : World}
set_option maxHeartbeats 1000000 in
theorem any_told {ab xb mb n : Nat} {f : Int → Int} {v : Value} {xs : List Int} (ha : Ars w K p s) (hf : s.Fit) (ca : w.cell? ⟨ab, 0, none⟩ = some (.pointer (some ⟨p, 0, none⟩))) (cx : w.cell? ⟨xb, 0, none⟩ = some (.map (some mb))) (hm : IMap w mb n f)
    (hI : Ints w v xs) (hx : ∀ x, x ∈ xs → 0 ≤ x ∧ x ≤ 1000000) (hl : xs.length ≤ 1000000) :
    Calls Try.prog 83 #[v, .func (.func 84) #[] #[.pointer (some ⟨ab, 0, none⟩), .pointer (some ⟨xb, 0, none⟩)]] w fun e w' => e = .returned (.bool (xs.any fun h => s.count h != f h)) ∧ ∃ q, w' = w.drewN q := by
  rcases hI with ⟨rfl, rfl⟩ | ⟨b, off, c, rfl, h1, h2, h3⟩
  · refine (Try.slices_ContainsFunc_empty (α := Int) none 0 _ w).mono ?_
    rintro e w' ⟨rfl, rfl⟩
    exact ⟨rfl, 0, rfl⟩
  · have hp : PredAt Try.prog 84 #[.pointer (some ⟨ab, 0, none⟩), .pointer (some ⟨xb, 0, none⟩)] (fun x : Int => Value.int .i64 (cl x)) (fun x => s.count (cl x) != f (cl x)) w := by
      intro W x hb
      exact told_count (h := cl x) (ha.below hb) hf ((hb.cell (p := ⟨ab, 0, none⟩) (cells_lt ca)).trans ca) ((hb.cell (p := ⟨xb, 0, none⟩) (cells_lt cx)).trans cx) (hm.same (hb.block _ hm.lt)) (cl_range x)
    refine (Try.slices_ContainsFunc _ _ _ _ enter_audit b off xs.length c xs w hp (Nat.le_refl _) (by omega) fun j hj => ?_).mono ?_
    · rw [h3 j hj, get_bang, cl_same]
      rw [List.getD_eq_getElem?_getD, List.getElem?_eq_getElem hj]
      exact hx _ (List.getElem_mem _)
    · rintro e w' ⟨rfl, q⟩
      refine ⟨?_, q⟩
      rw [List.take_length]
      congr 2
      rw [Bool.eq_iff_iff, List.any_eq_true, List.any_eq_true]
      constructor
      · rintro ⟨x, h1, h2⟩
        exact ⟨x, h1, by rwa [cl_same (hx x h1)] at h2⟩
      · rintro ⟨x, h1, h2⟩
        exact ⟨x, h1, by rwa [cl_same (hx x h1)]⟩
theorem sort_only (w : World) (g n : Nat) (dk : Array Int) (os : Array Obj) : Only (fun b => b = g) w (sortWorld (Value.int .i64) w g 0 n dk os) := by
  refine ⟨rfl, rfl, rfl, ?_, fun b hb hk => ?_⟩
  · show w.heap.size ≤ (_ ++ os).size
    rw [Array.size_append]
    simp [putRow, mapBlock, Sort.ahead]
  · have hne : g ≠ b := fun e => hk e.symm
    show (_ ++ os)[b]? = _
    rw [Array.getElem?_append_left (by simpa [putRow, mapBlock, Sort.ahead] using hb)]
    simp [putRow, mapBlock, Sort.ahead, Array.getElem?_modify, hne]
set_option maxHeartbeats 1000000 in
theorem del_nil (fv : Value) : Calls Try.prog 80 #[.slice none 0 0, fv] w fun e w' => e = .returned (.slice none 0 0) ∧ w' = w := by
  have H := Lib.hid (Try.slices_IndexFunc_empty (α := Int) none 0 fv w)
  go_enter Try.func80, Try.ntmps80
  go_wp2_with (go_at_call 104; refine H.out.mono ?_; rintro e w' ⟨rfl, rfl⟩)
  go_ret
  exact ⟨rfl, rfl⟩
set_option maxHeartbeats 2000000 in
theorem del_told {rb B Br : Nat} {Kr Kl : Nat → Prop} {v vl : Value} {ys xs : List Int} (cr : w.cell? ⟨rb, 0, none⟩ = some v) (hrb : ¬ Kl rb) (hr : Lst w Br Kr v ys) (hd : ∀ b, Kr b → ¬ Kl b) (hl : Lst w B Kl vl xs) (ly : ys.length ≤ 1000000) (lx : xs.length ≤ 1000000) :
    Calls Try.prog 80 #[vl, .func (.func 81) #[] #[.pointer (some ⟨rb, 0, none⟩)]] w fun e w' => ∃ v', e = .returned v' ∧ Lst w' B Kl v' (xs.filter fun h => !ys.contains h) ∧ Only Kl w w' := by
  by_cases hv : vl = .slice none 0 0
  · subst hv
    have e0 : xs = [] := by
      obtain ⟨a, c, e⟩ := hl.slice
      injection e with _ e _
      exact List.length_eq_zero_iff.1 e.symm
    subst e0
    refine (del_nil _).mono ?_
    rintro e w' ⟨rfl, rfl⟩
    exact ⟨_, rfl, by simpa using hl, rfl, rfl, rfl, Nat.le_refl _, fun _ _ _ => rfl⟩
  · obtain ⟨g, cap, rfl, hb, hlt, hn, hm, hl2, hH⟩ := Go.Lib.holds_of_ownsRow hl.1 hv
    have hg : Kl g := hl.2 g rfl
    have hp : PredAt Try.prog 81 #[.pointer (some ⟨rb, 0, none⟩)] (Value.int .i64) (fun x => ys.contains x) w := by
      intro W x hb
      exact told_in ((hb.cell (p := ⟨rb, 0, none⟩) (cells_lt cr)).trans cr) (hr.ints.below hb) (by omega)
    have hpo : PredOver Try.prog 81 #[.pointer (some ⟨rb, 0, none⟩)] (Value.int .i64) (fun x => ys.contains x) g 0 xs.toArray.size w := by
      intro n os dk x _
      have hO := sort_only w g n dk os
      refine told_in ?_ (hr.kept (hO.kept fun b hb e => hd b hb (e ▸ hg))).ints (by omega)
      have hk : Kept (fun b => b = rb) w (sortWorld (Value.int .i64) w g 0 n dk os) := hO.kept fun b hb e => hrb (by rw [← hb, e]; exact hg)
      exact (hk.cell (cells_lt cr) rfl).trans cr
    have hsz : xs.toArray.size = xs.length := by simp
    have := Try.slices_DeleteFunc (Value.int .i64) (fun _ => rfl) (fun x => ys.contains x) 81 #[.pointer (some ⟨rb, 0, none⟩)] enter_leaks 0 zero_int g 0 cap xs.toArray w hp hpo hH (by omega) (by omega)
    rw [hsz] at this
    refine this.mono ?_
    rintro e w' ⟨rfl, q, rfl⟩
    simp only
    obtain ⟨zs, hz⟩ : ∃ zs, (xs.filter fun x => !ys.contains x) = zs := ⟨_, rfl⟩
    have hzl : zs.length ≤ xs.length := by rw [← hz]; exact List.length_filter_le _ _
    rw [hz]
    have ho := Go.Lib.ownsRow_putRow (q := q) (k := zs.length) (ys := zs ++ List.replicate (xs.length - zs.length) 0) hl.1 (by simp; omega) hzl
    rw [List.take_left'] at ho
    · exact ⟨_, rfl, ⟨ho, fun b hb => by cases hb; exact hg⟩, rfl, rfl, rfl, by simp [putRow, mapBlock, Sort.ahead], fun b hb hk => by
        have hne : g ≠ b := fun e => hk (e ▸ hg)
        simp [putRow, mapBlock, Sort.ahead, Array.getElem?_modify, hne]⟩
    · rfl
end
end Go.Proofs.Ytjndhjmbdhfclaa
