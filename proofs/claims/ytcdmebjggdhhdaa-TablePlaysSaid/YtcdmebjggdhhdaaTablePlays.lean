/- TablePlays holds: documents come and go in every order, in an arena however small: each answer; what nobody has is free. No condition. -/
import Derived.Test.YtcdmebjggdhhdaaTp1
import Derived.Test.YtcdmebjggdhhdaaTp3
import Derived.Test.YtcdmebjggdhhdaaTp4
import Derived.Test.YtcdmebjggdhhdaaTp5
namespace Go.Proofs.Ytcdmebjggdhhdaa.tablePlays
open Go.ChangeShapes Go.WideShapes Go.ChangeAt Go.RowKit
set_option linter.unusedVariables false
theorem walk (n : Int) (w0 : (Lit.int .i64 n).wf = true) (v : Value) (m : Nat) (row : Nat → List Value) (w : World) (hx : FlatArg w v opKs m row) :
    Calls Try.prog 5 #[.int .i64 n, v] w fun e w' => e = .returned (.bool true) ∧ Below w.heap.size w w' :=
  stage0.2.2.2 (stage1.2.2.2.2 add_is add_then cut_is cut_then) rest_is fin_is n w0 v m row w hx

set_option maxRecDepth 100000 in
theorem lifted (os : Os) (started : os.Started) (H : Type) (enc : TypeId × Value → H) :
    ReturnsInHanded {} Try.checked os 5 .any (Rows.tablePlaysSpec.pre6 enc Try.prog Try.f5 Rows.tablePlaysRow.domain false) (Rows.tablePlaysSpec.post enc Try.prog Try.f5 false true false false) := by
  refine returnsInHanded_of_change (C := Try.checked) own_ started (by kernel_rfl) Try.func5
    (ChangeSpec.witness6 (enc := enc) (C := Try.checked) false ⟨#[], #[.int .i64 0, .slice none 0 0], []⟩ 8 (by kernel_rfl) (by kernel_rfl) (by kernel_rfl) (by kernel_rfl)) ?_
  intro W base args ds gs before hval0 hW _ _
  have hval : ∀ (j : Nat) t v, Try.f5.params[j]? = some t → args[j]? = some v → Value.okWide Try.prog W .any base t v := hval0
  have hW' := hW
  obtain ⟨p, q, hA0, hV, rfl, hfz, hnd⟩ := hW
  have hA : DataW.TrodAll enc Try.prog W 0 (fun _ => true) true Try.f5.params.toList args.toList ds p := hA0
  rw [Try.params5] at hA hval
  obtain ⟨v0, vs0, d0, ds0, p0, q0, hargs, rfl, rfl, h0, r0⟩ := trodAll_cons hA
  obtain ⟨v1, vs1, d1, ds1, p1, q1, rfl, rfl, rfl, h1, r1⟩ := trodAll_cons r0
  obtain ⟨rfl, rfl, rfl⟩ := trodAll_nil r1
  obtain rfl : args = #[v0, v1] := by cases args; simp_all
  obtain ⟨a0, rfl, rfl, rfl, w0⟩ := open_int Try.underlying3 (hval 0 3 v0 rfl rfl) h0
  obtain ⟨m1, x1, hx1⟩ := flat_arg (ks := opKs) (n := 5) Try.underlying48 (by kernel_rfl) (by kernel_rfl) (by decide) (hval 1 48 v1 rfl rfl) h1
  clear hA0 hval0
  refine (walk a0 w0 v1 m1 x1 W hx1).mono fun e W' ⟨he, hg⟩ => ?_
  subst he
  exact ⟨_, rfl, law_post laid_ (by kernel_rfl) rfl hW' hg rfl Try.underlying4 ⟨rfl, rfl, rfl⟩⟩

theorem over : Rows.tablePlaysRow.holds Try.pinned (OpenSpec.ofChange Rows.tablePlaysSpec) :=
  OpenClaim.holds_of_wide 5 Try.f5 rfl rfl rfl rfl rfl rfl rfl ⟨rfl, rfl, rfl, rfl, rfl⟩ rfl rfl rfl rfl rfl (by kernel_rfl) Try.func5 (by kernel_rfl)
    (of_decide_eq_true (by kernel_rfl)) (by unfold Func.isWrapper; first | (rw [if_pos (by decide +kernel)]; kernel_rfl) | (rw [if_neg (by decide +kernel)]; exact ⟨rfl, rfl⟩))
    (fun os started H enc _ => lifted os started H enc)

theorem proved : Rows.TablePlaysSaid :=
  over
#print axioms proved
end Go.Proofs.Ytcdmebjggdhhdaa.tablePlays
