/-
  The law FnExactDealRows returns true for every input, and its arguments read afterwards as before.
  No condition.
-/
import Derived.Test.YthbheejeloomjaaGreatRows
import Derived.Test.YthbheejeloomjaaGreatRows2
import Derived.WalkKit
import Derived.ProofKit
import Derived.OpenShut
namespace Go.Proofs.YthbheejeloomjaaGreat.fnExactDealRows
open Go.ChangeShapes Go.WideShapes Go.ChangeAt Go.RowKit Go.Ab

theorem own : ownKnob Tryz.prog.godebug = none := by kernel_rfl

set_option maxRecDepth 100000 in
theorem lifted (os : Os) (started : os.Started) (H : Type) (enc : TypeId × Value → H) :
    ReturnsInHanded {} Tryz.checked os 3 .any (Rows.fnExactDealRowsSpec.pre6 enc Tryz.prog Tryz.f3 Rows.fnExactDealRowsRow.domain false) (Rows.fnExactDealRowsSpec.post enc Tryz.prog Tryz.f3 false true false false) := by
  refine returnsInHanded_of_change (C := Tryz.checked) own started (by kernel_rfl) Tryz.func3
    (ChangeSpec.witness6 (enc := enc) (C := Tryz.checked) false ⟨#[], #[.agg #[.slice none 0 0, .slice none 0 0, .slice none 0 0], .int .i64 0], []⟩ 8 (by kernel_rfl) (by kernel_rfl) (by kernel_rfl) (by kernel_rfl)) ?_
  intro W base args ds gs before hval0 hW hcnd _
  have hval : ∀ (j : Nat) t v, Tryz.f3.params[j]? = some t → args[j]? = some v → Value.okWide Tryz.prog W .any base t v := hval0
  have hW' := hW
  obtain ⟨p, q, hA0, hV, rfl, hfz, hnd⟩ := hW
  have hA : DataW.TrodAll enc Tryz.prog W 0 (fun _ => true) true Tryz.f3.params.toList args.toList ds p := hA0
  rw [Tryz.params3] at hA hval
  obtain ⟨v0, vs0, d0, ds0, p0, q0, hargs, rfl, rfl, h0, r0⟩ := trodAll_cons hA
  obtain ⟨v1, vs1, d1, ds1, p1, q1, rfl, rfl, rfl, h1, r1⟩ := trodAll_cons r0
  obtain ⟨rfl, rfl, rfl⟩ := trodAll_nil r1
  obtain rfl : args = #[v0, v1] := by cases args; simp_all
  obtain ⟨rfl, rfl⟩ := trodVars_none hV
  obtain ⟨x0, e0, s0⟩ := open_arg (n := 12) roBelow (by kernel_rfl) h0 (hval 0 26 v0 rfl rfl)
  obtain ⟨a, rfl, o0⟩ := openV_struct Tryz.underlying26 open_Deal s0
  obtain ⟨x1, e1, s1⟩ := open_arg (n := 12) roBelow (by kernel_rfl) h1 (hval 1 3 v1 rfl rfl)
  obtain ⟨t, rfl, o1⟩ := openV_int Tryz.underlying3 s1
  refine (law_calls Tryz.func3 rfl (by kernel_rfl) (c_laws_FnExactDealRows a t o0) (args := #[v0, v1]) ?_).mono fun e W' ⟨he, hb⟩ => ?_
  · show LR _ _ _ [v0, v1]
    unfold LR
    refine ⟨e0, ?_⟩
    unfold LR
    refine ⟨e1, ?_⟩
    unfold LR
    trivial
  · subst he
    exact ⟨_, rfl, law_post (by kernel_rfl) (by kernel_rfl) rfl Tryz.underlying4 hW' hb rfl rfl rfl rfl⟩

theorem joined1 : laidOutB Tryz.prog = true := by kernel_rfl
theorem joined2 : (Rows.fnExactDealRowsRow.inPlace == Tryz.prog.inPlace 3) = true := by kernel_rfl
theorem joined3 : (Rows.fnExactDealRowsRow.unfollowed == Tryz.prog.unfollowed 3) = true := by kernel_rfl
theorem joined4 : (Rows.fnExactDealRowsRow.recurses == Tryz.prog.recurses 3) = true := by kernel_rfl
theorem joined5 : (Rows.fnExactDealRowsRow.named == Tryz.prog.varsNamed 3) = true := by kernel_rfl
theorem joined6 : Tryz.prog.mayEnter = true := by kernel_rfl
theorem joined : joinedFacts Tryz.prog 3 Tryz.f3 Rows.fnExactDealRowsSpec Rows.fnExactDealRowsRow = true := by
  unfold joinedFacts
  rw [joined1, joined2, joined3, joined4, joined5, joined6]
  kernel_rfl

theorem over : Rows.fnExactDealRowsRow.holds Tryz.pinned (OpenSpec.ofChange Rows.fnExactDealRowsSpec) :=
  OpenClaim.holds_of_wide 3 Tryz.f3 rfl rfl rfl rfl rfl rfl rfl ⟨rfl, rfl, rfl, rfl, rfl⟩ rfl rfl rfl rfl rfl (by kernel_rfl) Tryz.func3 joined
    (of_decide_eq_true (by kernel_rfl)) (by unfold Func.isWrapper; first | (rw [if_pos (by decide +kernel)]; kernel_rfl) | (rw [if_neg (by decide +kernel)]; exact ⟨rfl, rfl⟩))
    (fun os started H enc _ => lifted os started H enc)

theorem proved : Rows.FnExactDealRowsSaid :=
  over
#print axioms proved
end Go.Proofs.YthbheejeloomjaaGreat.fnExactDealRows
