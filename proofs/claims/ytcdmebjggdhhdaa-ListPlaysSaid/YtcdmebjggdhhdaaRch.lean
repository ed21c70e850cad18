/- What is reached in an arena: plain laws, no Go and no memory in them. -/
import Derived.Test.YtcdmebjggdhhdaaPure
namespace Go.Proofs.Ytcdmebjggdhhdaa

/-- A live node that is reached. -/
inductive Rch (s : Ar) (roots : List Int) : Int → Prop
  | root {r : Int} : r ∈ roots → s.count r ≠ 0 → Rch s roots r
  | kid {x k : Int} : Rch s roots x → k ∈ (s.nd x.toNat).kids → s.count k ≠ 0 → Rch s roots k
section
variable {s : Ar} {roots : List Int}
theorem Rch.live {x : Int} (h : Rch s roots x) : s.count x ≠ 0 := by
  cases h <;> assumption
theorem Rch.mono {roots' : List Int} (hr : ∀ r, r ∈ roots → r ∈ roots') {x : Int} (h : Rch s roots x) : Rch s roots' x := by
  induction h with
  | root h1 h2 => exact .root (hr _ h1) h2
  | kid _ h2 h3 ih => exact .kid ih h2 h3
/-- While it is looked for: what is left to do, what was found. -/
structure Seek (s : Ar) (roots : List Int) (todo out : List Int) : Prop where
  nodup : out.Nodup
  sound : ∀ x, x ∈ out → Rch s roots x
  from_ : ∀ x, x ∈ todo → x ∈ roots ∨ ∃ y, Rch s roots y ∧ x ∈ (s.nd y.toNat).kids
  roots : ∀ r, r ∈ roots → s.count r ≠ 0 → r ∈ out ∨ r ∈ todo
  kids : ∀ x, x ∈ out → ∀ k, k ∈ (s.nd x.toNat).kids → s.count k ≠ 0 → k ∈ out ∨ k ∈ todo
theorem Seek.start (s : Ar) (roots : List Int) : Seek s roots roots [] :=
  ⟨List.nodup_nil, fun x h => (by cases h), fun x h => .inl h, fun r h _ => .inr h, fun x h => (by cases h)⟩
theorem Seek.skip {todo out : List Int} {h : Int} (hs : Seek s roots (todo ++ [h]) out) (hc : s.count h = 0 ∨ h ∈ out) : Seek s roots todo out := by
  have key : ∀ k, s.count k ≠ 0 → (k ∈ out ∨ k ∈ todo ++ [h]) → k ∈ out ∨ k ∈ todo := by
    intro k hk hh
    rcases hh with hh | hh
    · exact .inl hh
    · rcases List.mem_append.1 hh with hh | hh
      · exact .inr hh
      · have : k = h := by simpa using hh
        subst this
        rcases hc with hc | hc
        · exact absurd hc hk
        · exact .inl hc
  exact ⟨hs.nodup, hs.sound, fun x hx => hs.from_ x (List.mem_append_left _ hx), fun r h1 h2 => key r h2 (hs.roots r h1 h2), fun x h1 k h2 h3 => key k h3 (hs.kids x h1 k h2 h3)⟩
theorem Seek.take {todo out : List Int} {h : Int} (hs : Seek s roots (todo ++ [h]) out) (hc : s.count h ≠ 0) (hn : ¬ h ∈ out) : Seek s roots (todo ++ (s.nd h.toNat).kids) (out ++ [h]) := by
  have hr : Rch s roots h := by
    rcases hs.from_ h (by simp) with a | ⟨y, a, b⟩
    · exact .root a hc
    · exact .kid a b hc
  have key : ∀ k, (k ∈ out ∨ k ∈ todo ++ [h]) → k ∈ out ++ [h] ∨ k ∈ todo ++ (s.nd h.toNat).kids := by
    intro k hh
    simp only [List.mem_append, List.mem_singleton] at hh ⊢
    rcases hh with a | a | a
    · exact .inl (.inl a)
    · exact .inr (.inl a)
    · exact .inl (.inr a)
  refine ⟨?_, fun x hx => ?_, fun x hx => ?_, fun r h1 h2 => key r (hs.roots r h1 h2), fun x hx k hk hk2 => ?_⟩
  · rw [List.nodup_append]
    exact ⟨hs.nodup, by simp, fun a ha b hb => by rintro rfl; have : a = h := by simpa using hb
                                                  subst this; exact hn ha⟩
  · rcases List.mem_append.1 hx with hx | hx
    · exact hs.sound x hx
    · have : x = h := by simpa using hx
      subst this; exact hr
  · rcases List.mem_append.1 hx with hx | hx
    · exact hs.from_ x (List.mem_append_left _ hx)
    · exact .inr ⟨h, hr, hx⟩
  · rcases List.mem_append.1 hx with hx | hx
    · exact key k (hs.kids x hx k hk hk2)
    · have : x = h := by simpa using hx
      subst this
      exact .inr (List.mem_append_right _ hk)
theorem Seek.fin {out : List Int} (hs : Seek s roots [] out) (x : Int) : x ∈ out ↔ Rch s roots x := by
  refine ⟨hs.sound x, fun h => ?_⟩
  induction h with
  | root h1 h2 => exact (hs.roots _ h1 h2).resolve_right (by simp)
  | kid _ h2 h3 ih => exact (hs.kids _ ih _ h2 h3).resolve_right (by simp)
theorem Seek.len {todo out : List Int} (hs : Seek s roots todo out) : out.length ≤ s.n := nodup_len s.n out hs.nodup fun x hx => by
  have := count_pos (hs.sound x hx).live
  exact ⟨this.1, this.2.1⟩
end
/-- Ascending, each once. -/
def Asc (l : List Int) : Prop := l.Pairwise (· < ·)
theorem asc_sort {out : List Int} (h : out.Nodup) : Asc (out.mergeSort fun x y => decide (x ≤ y)) ∧ ∀ x, x ∈ (out.mergeSort fun x y => decide (x ≤ y)) ↔ x ∈ out := by
  have hp := List.mergeSort_perm out fun x y => decide (x ≤ y)
  refine ⟨?_, fun x => hp.mem_iff⟩
  have hs := List.pairwise_mergeSort (le := fun x y : Int => decide (x ≤ y)) (fun a b c h1 h2 => by simp at h1 h2 ⊢; omega) (fun a b => by simp; omega) out
  have hn : (out.mergeSort fun x y => decide (x ≤ y)).Nodup := hp.nodup_iff.2 h
  unfold Asc
  refine (hs.and hn).imp ?_
  rintro a b ⟨h1, h2⟩
  have h1' : a ≤ b := by simpa using h1
  have h2' : a ≠ b := h2
  omega
/-- Two ascending lists of the same numbers are one. -/
theorem asc_ext : ∀ {a b : List Int}, Asc a → Asc b → (∀ x, x ∈ a ↔ x ∈ b) → a = b
  | [], [], _, _, _ => rfl
  | [], y :: b, _, _, h => absurd ((h y).2 (by simp)) (by simp)
  | x :: a, [], _, _, h => absurd ((h x).1 (by simp)) (by simp)
  | x :: a, y :: b, ha, hb, h => by
    have ha' := List.pairwise_cons.1 ha
    have hb' := List.pairwise_cons.1 hb
    have e : x = y := by
      rcases List.mem_cons.1 ((h x).1 (by simp)) with e | e
      · exact e
      · rcases List.mem_cons.1 ((h y).2 (by simp)) with e2 | e2
        · exact e2.symm
        · have := hb'.1 x e
          have := ha'.1 y e2
          omega
    subst e
    rw [asc_ext ha'.2 hb'.2 fun z => ?_]
    have hz := h z
    simp only [List.mem_cons] at hz
    constructor
    · intro g
      rcases hz.1 (.inr g) with e | e
      · subst e; have := ha'.1 z g; omega
      · exact e
    · intro g
      rcases hz.2 (.inr g) with e | e
      · subst e; have := hb'.1 z g; omega
      · exact e
theorem Asc.nodup {a : List Int} (h : Asc a) : a.Nodup := List.Pairwise.imp (fun h => by omega) h
end Go.Proofs.Ytcdmebjggdhhdaa
