/-
  The law FnExactOnDisk returns true for every input, and its arguments read afterwards as before.
  No condition.
-/
import Derived.Test.YtfpkfnfgloonhaaRows
import Derived.Test.YtfpkfnfgloonhaaFrame4
import Derived.WalkKit
import Derived.ProofKit
import Derived.OpenShut
namespace Go.Proofs.Ytfpkfnfgloonhaa.fnExactOnDisk
open Go.ChangeShapes Go.WideShapes Go.ChangeAt Go.RowKit Go.Ab

theorem own : ownKnob Try.prog.godebug = none := by kernel_rfl

set_option maxRecDepth 100000 in
theorem lifted (os : Os) (started : os.Started) (H : Type) (enc : TypeId × Value → H) :
    ReturnsInHanded {} Try.checked os 3 .any (Rows.fnExactOnDiskSpec.pre6 enc Try.prog Try.f3 Rows.fnExactOnDiskRow.domain false) (Rows.fnExactOnDiskSpec.post enc Try.prog Try.f3 false true false false) := by
  refine returnsInHanded_of_change (C := Try.checked) own started (by kernel_rfl) Try.func3
    (ChangeSpec.witness6 (enc := enc) (C := Try.checked) false ⟨#[], #[.agg #[.string ⟨#[]⟩, .string ⟨#[]⟩]], []⟩ 8 (by kernel_rfl) (by kernel_rfl) (by kernel_rfl) (by kernel_rfl)) ?_
  intro W base args ds gs before hval0 hW hcnd _
  have hval : ∀ (j : Nat) t v, Try.f3.params[j]? = some t → args[j]? = some v → Value.okWide Try.prog W .any base t v := hval0
  have hW' := hW
  obtain ⟨p, q, hA0, hV, rfl, hfz, hnd⟩ := hW
  have hA : DataW.TrodAll enc Try.prog W 0 (fun _ => true) true Try.f3.params.toList args.toList ds p := hA0
  rw [Try.params3] at hA hval
  obtain ⟨v0, vs0, d0, ds0, p0, q0, hargs, rfl, rfl, h0, r0⟩ := trodAll_cons hA
  obtain ⟨rfl, rfl, rfl⟩ := trodAll_nil r0
  obtain rfl : args = #[v0] := by cases args; simp_all
  obtain ⟨rfl, rfl⟩ := trodVars_none hV
  obtain ⟨x0, e0, s0⟩ := open_arg (n := 12) roBelow (by kernel_rfl) h0 (hval 0 23 v0 rfl rfl)
  obtain ⟨aD, rfl, o0⟩ := openV_struct Try.underlying23 open_Disk s0
  refine (law_calls Try.func3 rfl (by kernel_rfl) (c_laws_FnExactOnDisk aD o0) (args := #[v0]) ?_).mono fun e W' ⟨he, hb⟩ => ?_
  · show LR _ _ _ [v0]
    unfold LR
    refine ⟨e0, ?_⟩
    unfold LR
    trivial
  · subst he
    exact ⟨_, rfl, law_post (by kernel_rfl) (by kernel_rfl) rfl Try.underlying4 hW' hb rfl rfl rfl rfl⟩

theorem joined1 : laidOutB Try.prog = true := by kernel_rfl
theorem joined2 : (Rows.fnExactOnDiskRow.inPlace == Try.prog.inPlace 3) = true := by kernel_rfl
theorem joined3 : (Rows.fnExactOnDiskRow.unfollowed == Try.prog.unfollowed 3) = true := by kernel_rfl
theorem joined4 : (Rows.fnExactOnDiskRow.recurses == Try.prog.recurses 3) = true := by kernel_rfl
theorem joined5 : (Rows.fnExactOnDiskRow.named == Try.prog.varsNamed 3) = true := by kernel_rfl
theorem joined6 : Try.prog.mayEnter = true := by kernel_rfl
theorem joined : joinedFacts Try.prog 3 Try.f3 Rows.fnExactOnDiskSpec Rows.fnExactOnDiskRow = true := by
  unfold joinedFacts
  rw [joined1, joined2, joined3, joined4, joined5, joined6]
  kernel_rfl

theorem over : Rows.fnExactOnDiskRow.holds Try.pinned (OpenSpec.ofChange Rows.fnExactOnDiskSpec) :=
  OpenClaim.holds_of_wide 3 Try.f3 rfl rfl rfl rfl rfl rfl rfl ⟨rfl, rfl, rfl, rfl, rfl⟩ rfl rfl rfl rfl rfl (by kernel_rfl) Try.func3 joined
    (of_decide_eq_true (by kernel_rfl)) (by unfold Func.isWrapper; first | (rw [if_pos (by decide +kernel)]; kernel_rfl) | (rw [if_neg (by decide +kernel)]; exact ⟨rfl, rfl⟩))
    (fun os started H enc _ => lifted os started H enc)

theorem proved : Rows.FnExactOnDiskSaid :=
  over
#print axioms proved
end Go.Proofs.Ytfpkfnfgloonhaa.fnExactOnDisk
