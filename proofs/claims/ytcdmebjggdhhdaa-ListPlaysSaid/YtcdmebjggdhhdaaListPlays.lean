/- ListPlays holds: many lists in one arena, made of one another, dropped, freed, in every order: each stays as it is; each answer is a list's; what does not fit leaves nothing. No condition. -/
import Derived.Test.YtcdmebjggdhhdaaLp3
import Derived.Test.YtcdmebjggdhhdaaLp4
import Derived.Test.YtcdmebjggdhhdaaLk4
import Derived.Test.YtcdmebjggdhhdaaLk6
import Derived.Test.YtcdmebjggdhhdaaLt1
import Derived.Test.YtcdmebjggdhhdaaLt2
import Derived.Test.YtcdmebjggdhhdaaLt3
import Derived.Test.YtcdmebjggdhhdaaLn1
import Derived.Test.YtcdmebjggdhhdaaLn2
import Derived.Test.YtcdmebjggdhhdaaLn3
namespace Go.Proofs.Ytcdmebjggdhhdaa.listPlays
open Go.ChangeShapes Go.WideShapes Go.ChangeAt Go.RowKit
set_option linter.unusedVariables false
theorem kinds : stage2.1 :=
  stage3.2.2.2.2.2 (kind1.2.2 now1 then1) (kind2.2.2 now2 then2) (kind3.2.2 now3 then3) dropped_is get_is
theorem walk (n : Int) (w0 : (Lit.int .i64 n).wf = true) (v : Value) (m : Nat) (row : Nat → List Value) (w : World) (hx : FlatArg w v opKs m row) :
    Calls Try.prog 4 #[.int .i64 n, v] w fun e w' => e = .returned (.bool true) ∧ Below w.heap.size w w' :=
  stage0.2.2 (stage1.2 (stage2.2.2 kinds rest_is)) fin_is n w0 v m row w hx

set_option maxRecDepth 100000 in
theorem lifted (os : Os) (started : os.Started) (H : Type) (enc : TypeId × Value → H) :
    ReturnsInHanded {} Try.checked os 4 .any (Rows.listPlaysSpec.pre6 enc Try.prog Try.f4 Rows.listPlaysRow.domain false) (Rows.listPlaysSpec.post enc Try.prog Try.f4 false true false false) := by
  refine returnsInHanded_of_change (C := Try.checked) own_ started (by kernel_rfl) Try.func4
    (ChangeSpec.witness6 (enc := enc) (C := Try.checked) false ⟨#[], #[.int .i64 0, .slice none 0 0], []⟩ 8 (by kernel_rfl) (by kernel_rfl) (by kernel_rfl) (by kernel_rfl)) ?_
  intro W base args ds gs before hval0 hW _ _
  have hval : ∀ (j : Nat) t v, Try.f4.params[j]? = some t → args[j]? = some v → Value.okWide Try.prog W .any base t v := hval0
  have hW' := hW
  obtain ⟨p, q, hA0, hV, rfl, hfz, hnd⟩ := hW
  have hA : DataW.TrodAll enc Try.prog W 0 (fun _ => true) true Try.f4.params.toList args.toList ds p := hA0
  rw [Try.params4] at hA hval
  obtain ⟨v0, vs0, d0, ds0, p0, q0, hargs, rfl, rfl, h0, r0⟩ := trodAll_cons hA
  obtain ⟨v1, vs1, d1, ds1, p1, q1, rfl, rfl, rfl, h1, r1⟩ := trodAll_cons r0
  obtain ⟨rfl, rfl, rfl⟩ := trodAll_nil r1
  obtain rfl : args = #[v0, v1] := by cases args; simp_all
  obtain ⟨a0, rfl, rfl, rfl, w0⟩ := open_int Try.underlying3 (hval 0 3 v0 rfl rfl) h0
  obtain ⟨m1, x1, hx1⟩ := flat_arg (ks := opKs) (n := 5) Try.underlying38 (by kernel_rfl) (by kernel_rfl) (by decide) (hval 1 38 v1 rfl rfl) h1
  clear hA0 hval0
  refine (walk a0 w0 v1 m1 x1 W hx1).mono fun e W' ⟨he, hg⟩ => ?_
  subst he
  exact ⟨_, rfl, law_post laid_ (by kernel_rfl) rfl hW' hg rfl Try.underlying4 ⟨rfl, rfl, rfl⟩⟩

theorem over : Rows.listPlaysRow.holds Try.pinned (OpenSpec.ofChange Rows.listPlaysSpec) :=
  OpenClaim.holds_of_wide 4 Try.f4 rfl rfl rfl rfl rfl rfl rfl ⟨rfl, rfl, rfl, rfl, rfl⟩ rfl rfl rfl rfl rfl (by kernel_rfl) Try.func4 (by kernel_rfl)
    (of_decide_eq_true (by kernel_rfl)) (by unfold Func.isWrapper; first | (rw [if_pos (by decide +kernel)]; kernel_rfl) | (rw [if_neg (by decide +kernel)]; exact ⟨rfl, rfl⟩))
    (fun os started H enc _ => lifted os started H enc)

theorem proved : Rows.ListPlaysSaid :=
  over
#print axioms proved
end Go.Proofs.Ytcdmebjggdhhdaa.listPlays
