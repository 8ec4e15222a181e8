/-
  The law FnExactAgreeDeal returns true for every input, and its arguments read afterwards as before.
  No condition.
-/
import Derived.Test.YtgkghkcahepicaaGreatRows
import Derived.Test.YtgkghkcahepicaaGreatAgree3
import Derived.WalkKit
import Derived.ProofKit
import Derived.OpenShut
namespace Go.Proofs.YtgkghkcahepicaaGreat.fnExactAgreeDeal
open Go.ChangeShapes Go.WideShapes Go.ChangeAt Go.RowKit Go.Ab

theorem own : ownKnob Tryz.prog.godebug = none := by kernel_rfl

set_option maxRecDepth 100000 in
theorem lifted (os : Os) (started : os.Started) (H : Type) (enc : TypeId × Value → H) :
    ReturnsInHanded {} Tryz.checked os 5 .any (Rows.fnExactAgreeDealSpec.pre6 enc Tryz.prog Tryz.f5 Rows.fnExactAgreeDealRow.domain false) (Rows.fnExactAgreeDealSpec.post enc Tryz.prog Tryz.f5 false true false false) := by
  refine returnsInHanded_of_change (C := Tryz.checked) own started (by kernel_rfl) Tryz.func5
    (ChangeSpec.witness6 (enc := enc) (C := Tryz.checked) false ⟨#[], #[.agg #[.slice none 0 0, .slice none 0 0, .slice none 0 0]], []⟩ 8 (by kernel_rfl) (by kernel_rfl) (by kernel_rfl) (by kernel_rfl)) ?_
  intro W base args ds gs before hval0 hW hcnd _
  have hval : ∀ (j : Nat) t v, Tryz.f5.params[j]? = some t → args[j]? = some v → Value.okWide Tryz.prog W .any base t v := hval0
  have hW' := hW
  obtain ⟨p, q, hA0, hV, rfl, hfz, hnd⟩ := hW
  have hA : DataW.TrodAll enc Tryz.prog W 0 (fun _ => true) true Tryz.f5.params.toList args.toList ds p := hA0
  rw [Tryz.params5] at hA hval
  obtain ⟨v0, vs0, d0, ds0, p0, q0, hargs, rfl, rfl, h0, r0⟩ := trodAll_cons hA
  obtain ⟨rfl, rfl, rfl⟩ := trodAll_nil r0
  obtain rfl : args = #[v0] := by cases args; simp_all
  obtain ⟨rfl, rfl⟩ := trodVars_none hV
  obtain ⟨x0, e0, s0⟩ := open_arg (n := 12) roBelow (by kernel_rfl) h0 (hval 0 26 v0 rfl rfl)
  obtain ⟨a, rfl, o0⟩ := openV_struct Tryz.underlying26 open_Deal s0
  refine (law_calls Tryz.func5 rfl (by kernel_rfl) (c_laws_FnExactAgreeDeal a o0) (args := #[v0]) ?_).mono fun e W' ⟨he, hb⟩ => ?_
  · show LR _ _ _ [v0]
    unfold LR
    refine ⟨e0, ?_⟩
    unfold LR
    trivial
  · subst he
    exact ⟨_, rfl, law_post (by kernel_rfl) (by kernel_rfl) rfl Tryz.underlying4 hW' hb rfl rfl rfl rfl⟩

theorem joined1 : laidOutB Tryz.prog = true := by kernel_rfl
theorem joined2 : (Rows.fnExactAgreeDealRow.inPlace == Tryz.prog.inPlace 5) = true := by kernel_rfl
theorem joined3 : (Rows.fnExactAgreeDealRow.unfollowed == Tryz.prog.unfollowed 5) = true := by kernel_rfl
theorem joined4 : (Rows.fnExactAgreeDealRow.recurses == Tryz.prog.recurses 5) = true := by kernel_rfl
theorem joined5 : (Rows.fnExactAgreeDealRow.named == Tryz.prog.varsNamed 5) = true := by kernel_rfl
theorem joined6 : Tryz.prog.mayEnter = true := by kernel_rfl
theorem joined : joinedFacts Tryz.prog 5 Tryz.f5 Rows.fnExactAgreeDealSpec Rows.fnExactAgreeDealRow = true := by
  unfold joinedFacts
  rw [joined1, joined2, joined3, joined4, joined5, joined6]
  kernel_rfl

theorem over : Rows.fnExactAgreeDealRow.holds Tryz.pinned (OpenSpec.ofChange Rows.fnExactAgreeDealSpec) :=
  OpenClaim.holds_of_wide 5 Tryz.f5 rfl rfl rfl rfl rfl rfl rfl ⟨rfl, rfl, rfl, rfl, rfl⟩ rfl rfl rfl rfl rfl (by kernel_rfl) Tryz.func5 joined
    (of_decide_eq_true (by kernel_rfl)) (by unfold Func.isWrapper; first | (rw [if_pos (by decide +kernel)]; kernel_rfl) | (rw [if_neg (by decide +kernel)]; exact ⟨rfl, rfl⟩))
    (fun os started H enc _ => lifted os started H enc)

theorem proved : Rows.FnExactAgreeDealSaid :=
  over
#print axioms proved
end Go.Proofs.YtgkghkcahepicaaGreat.fnExactAgreeDeal
