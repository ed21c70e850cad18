/- The end of a law's row: what the call leaves of old memory is as it was, and it answers true. -/
import Derived.Test.YtcdmebjggdhhdaaRows
import Derived.WalkKit
import Derived.ProofKit
import Derived.OpenShut
namespace Go.Proofs.Ytcdmebjggdhhdaa
open Go.ChangeShapes Go.WideShapes Go.ChangeAt Go.RowKit

theorem own_ : ownKnob Try.prog.godebug = none := by kernel_rfl
theorem laid_ : laidOutB Try.prog = true := by kernel_rfl

section
variable {H : Type} {enc : TypeId × Value → H} {P : Program}
/-- All arguments read in a world in which nothing old has turned as they did. -/
theorem trodAll_stays (hl : laidOutB P = true) {W W' : World} (hb : Below W.heap.size W W') (sp : Nat → Bool) : ∀ {ts : List TypeId} {vs : List Value} {ds : List (DataW H)} {ps : List MemPlace},
    (∀ t ∈ ts, P.readableRec t = true ∧ t < P.types.size) → DataW.TrodAll enc P W 0 (fun _ => true) true ts vs ds ps → (∀ x ∈ ps, x.block < W.heap.size) → (∀ x ∈ ps, sp x.block = true) →
    DataW.TrodAll enc P W' 0 sp true ts vs ds ps
  | [], vs, ds, ps, _, h, _, _ => by
    obtain ⟨rfl, rfl, rfl⟩ := trodAll_nil h
    exact trodAll_mk0
  | t :: ts, vs, ds, ps, ht, h, hlt, hsp => by
    obtain ⟨v, vs', d, ds', p, q, rfl, rfl, rfl, h0, h1⟩ := trodAll_cons h
    have hp : ∀ x ∈ p, x.block < W.heap.size := fun x hx => hlt x (List.mem_append_left _ hx)
    have hq : ∀ x ∈ q, x.block < W.heap.size := fun x hx => hlt x (List.mem_append_right _ hx)
    exact trodAll_cons_mk (WideElems.Trod_stays hl (ht t (by simp)).1 (ht t (by simp)).2 h0 (fun x hx => hb.same (hp x hx)) (fun x hx => hsp x (List.mem_append_left _ hx)))
      (trodAll_stays hl hb sp (fun u hu => ht u (List.mem_cons_of_mem _ hu)) h1 hq (fun x hx => hsp x (List.mem_append_right _ hx)))

/-- The places of the arguments alone: no variable is named. -/
theorem whole_args {ts : List TypeId} {apart : Bool} {w : World} {vs : List Value} {ds gs : List (DataW H)} {ps : List MemPlace} (h : DataW.Whole enc P ts [] apart w vs ds gs ps) :
    gs = [] ∧ DataW.TrodAll enc P w 0 (fun _ => true) true ts vs ds ps ∧ w.noneFrozen ps ∧ (apart = true → ps.Nodup) := by
  obtain ⟨p, q, hA, hV, rfl, hfz, hnd⟩ := h
  obtain ⟨rfl, rfl⟩ := trodVars_none hV
  rw [List.append_nil] at hfz hnd ⊢
  exact ⟨rfl, hA, hfz, hnd⟩

theorem law_post {f : Func} {s : ChangeSpec} {apart fresh handsOn again : Bool} {W W' : World} {args : Array Value} {ds gs : List (DataW H)} {before : List MemPlace} {tb : TypeId}
    (hl : laidOutB P = true) (hts : (f.params.toList.all fun t => P.readableRec t && decide (t < P.types.size)) = true) (hvars : s.vars = []) (hW : DataW.Whole enc P f.params.toList s.vars apart W args.toList ds gs before) (hb : Below W.heap.size W W')
    (hr : f.resultTypes = #[tb]) (hu : P.underlying tb = some .bool) (hfn : (s.fn H (ds ++ [])).results = [.lit (.bool true)] ∧ (s.fn H (ds ++ [])).args = ds ∧ (s.fn H (ds ++ [])).vars = []) :
    s.post enc P f apart fresh handsOn again W args (.bool true) W' := by
  have hts' : ∀ t ∈ f.params.toList, P.readableRec t = true ∧ t < P.types.size := fun t ht => by
    have := List.all_eq_true.1 hts t ht
    simpa using this
  have hlt := hW.lt
  have hW0 := hW
  rw [hvars] at hW0
  obtain ⟨rfl, hA, hfz, hnd⟩ := whole_args hW0
  obtain ⟨e1, e2, e3⟩ := hfn
  have hone : (Value.bool true).resultList f.resultTypes.size = [.bool true] := by rw [hr]; rfl
  have hbool : ∀ (b : Nat) (sp : Nat → Bool) (hd : Bool), DataW.TrodAll enc P W' b sp hd f.resultTypes.toList ((Value.bool true).resultList f.resultTypes.size) (s.fn H (ds ++ [])).results [] := by
    intro b sp hd
    rw [hone, hr, e1]
    exact trodAll_mk1 (shut_bool hu _)
  have hargs : ∀ sp : Nat → Bool, (∀ p ∈ before, sp p.block = true) → DataW.TrodAll enc P W' 0 sp true f.params.toList args.toList (s.fn H (ds ++ [])).args before := by
    intro sp hsp
    rw [e2]
    exact trodAll_stays hl hb sp hts' hA hlt hsp
  have hold : ∀ p ∈ before, (fun b => decide (b < W.heap.size)) p.block = true := fun p hp => by simpa using hlt p hp
  have hv : ∀ sp : Nat → Bool, DataW.TrodVars enc P W' sp s.vars (s.fn H (ds ++ [])).vars [] := by
    intro sp
    rw [hvars, e3]
    exact rfl
  refine ⟨ds, [], before, [], before, [], hW, hbool _ _ _, hargs _ hold, hv _, hb.frame _, fun _ => ⟨ok_one hr (by rw [show (1 : Nat) = f.resultTypes.size by rw [hr]; rfl]; exact hone) (okWide_bool_mk hu _), _, _, [] ++ before ++ [], ⟨[] ++ before, [], trodAll_append (hargs _ (fun _ _ => rfl)) (hbool _ _ _), hv _, rfl, ?_, ?_⟩, ?_⟩⟩
  · intro b off hp
    have hp' : MemPlace.cell b off ∈ before := by simpa using hp
    have hz := hfz b off hp'
    have := hb.frozen (p := ⟨b, off, none⟩) (hlt _ hp')
    rw [this]
    exact hz
  · intro ha
    simpa using hnd ha
  · intro p hp _
    simpa using hp
end
end Go.Proofs.Ytcdmebjggdhhdaa
