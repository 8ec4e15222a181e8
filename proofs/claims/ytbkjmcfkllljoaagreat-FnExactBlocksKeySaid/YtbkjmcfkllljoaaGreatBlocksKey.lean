/-
  The law FnExactBlocksKey returns true for every input, and its arguments read afterwards as before.
  No condition.
-/
import Derived.Test.YtbkjmcfkllljoaaGreatRows
import Derived.Test.YtbkjmcfkllljoaaGreatBlocks
import Derived.WalkKit
import Derived.ProofKit
import Derived.OpenShut
namespace Go.Proofs.YtbkjmcfkllljoaaGreat.fnExactBlocksKey
open Go.ChangeShapes Go.WideShapes Go.ChangeAt Go.RowKit Go.Ab

theorem own : ownKnob Tryz.prog.godebug = none := by kernel_rfl

set_option maxRecDepth 100000 in
theorem lifted (os : Os) (started : os.Started) (H : Type) (enc : TypeId × Value → H) :
    ReturnsInHanded {} Tryz.checked os 11 .any (Rows.fnExactBlocksKeySpec.pre6 enc Tryz.prog Tryz.f11 Rows.fnExactBlocksKeyRow.domain false) (Rows.fnExactBlocksKeySpec.post enc Tryz.prog Tryz.f11 false true false false) := by
  refine returnsInHanded_of_change (C := Tryz.checked) own started (by kernel_rfl) Tryz.func11
    (ChangeSpec.witness6 (enc := enc) (C := Tryz.checked) false ⟨#[], #[.agg #[.int .i64 0, .slice none 0 0, .slice none 0 0, .slice none 0 0], .string ⟨#[]⟩, .int .i64 0], []⟩ 8 (by kernel_rfl) (by kernel_rfl) (by kernel_rfl) (by kernel_rfl)) ?_
  intro W base args ds gs before hval0 hW hcnd _
  have hval : ∀ (j : Nat) t v, Tryz.f11.params[j]? = some t → args[j]? = some v → Value.okWide Tryz.prog W .any base t v := hval0
  have hW' := hW
  obtain ⟨p, q, hA0, hV, rfl, hfz, hnd⟩ := hW
  have hA : DataW.TrodAll enc Tryz.prog W 0 (fun _ => true) true Tryz.f11.params.toList args.toList ds p := hA0
  rw [Tryz.params11] at hA hval
  obtain ⟨v0, vs0, d0, ds0, p0, q0, hargs, rfl, rfl, h0, r0⟩ := trodAll_cons hA
  obtain ⟨v1, vs1, d1, ds1, p1, q1, rfl, rfl, rfl, h1, r1⟩ := trodAll_cons r0
  obtain ⟨v2, vs2, d2, ds2, p2, q2, rfl, rfl, rfl, h2, r2⟩ := trodAll_cons r1
  obtain ⟨rfl, rfl, rfl⟩ := trodAll_nil r2
  obtain rfl : args = #[v0, v1, v2] := by cases args; simp_all
  obtain ⟨rfl, rfl⟩ := trodVars_none hV
  obtain ⟨x0, e0, s0⟩ := open_arg (n := 12) roBelow (by kernel_rfl) h0 (hval 0 87 v0 rfl rfl)
  obtain ⟨aS, rfl, o0⟩ := openV_struct Tryz.underlying87 open_State s0
  obtain ⟨x1, e1, s1⟩ := open_arg (n := 12) roBelow (by kernel_rfl) h1 (hval 1 9 v1 rfl rfl)
  obtain ⟨aKey, rfl, o1⟩ := openV_str Tryz.underlying9 s1
  obtain ⟨x2, e2, s2⟩ := open_arg (n := 12) roBelow (by kernel_rfl) h2 (hval 2 3 v2 rfl rfl)
  obtain ⟨aTime, rfl, o2⟩ := openV_int Tryz.underlying3 s2
  refine (law_calls Tryz.func11 rfl (by kernel_rfl) (c_laws_FnExactBlocksKey aS aKey aTime o0 o1) (args := #[v0, v1, v2]) ?_).mono fun e W' ⟨he, hb⟩ => ?_
  · show LR _ _ _ [v0, v1, v2]
    unfold LR
    refine ⟨e0, ?_⟩
    unfold LR
    refine ⟨e1, ?_⟩
    unfold LR
    refine ⟨e2, ?_⟩
    unfold LR
    trivial
  · subst he
    exact ⟨_, rfl, law_post (by kernel_rfl) (by kernel_rfl) rfl Tryz.underlying4 hW' hb rfl rfl rfl rfl⟩

theorem joined1 : laidOutB Tryz.prog = true := by kernel_rfl
theorem joined2 : (Rows.fnExactBlocksKeyRow.inPlace == Tryz.prog.inPlace 11) = true := by kernel_rfl
theorem joined3 : (Rows.fnExactBlocksKeyRow.unfollowed == Tryz.prog.unfollowed 11) = true := by kernel_rfl
theorem joined4 : (Rows.fnExactBlocksKeyRow.recurses == Tryz.prog.recurses 11) = true := by kernel_rfl
theorem joined5 : (Rows.fnExactBlocksKeyRow.named == Tryz.prog.varsNamed 11) = true := by kernel_rfl
theorem joined6 : Tryz.prog.mayEnter = true := by kernel_rfl
theorem joined : joinedFacts Tryz.prog 11 Tryz.f11 Rows.fnExactBlocksKeySpec Rows.fnExactBlocksKeyRow = true := by
  unfold joinedFacts
  rw [joined1, joined2, joined3, joined4, joined5, joined6]
  kernel_rfl

theorem over : Rows.fnExactBlocksKeyRow.holds Tryz.pinned (OpenSpec.ofChange Rows.fnExactBlocksKeySpec) :=
  OpenClaim.holds_of_wide 11 Tryz.f11 rfl rfl rfl rfl rfl rfl rfl ⟨rfl, rfl, rfl, rfl, rfl⟩ rfl rfl rfl rfl rfl (by kernel_rfl) Tryz.func11 joined
    (of_decide_eq_true (by kernel_rfl)) (by unfold Func.isWrapper; first | (rw [if_pos (by decide +kernel)]; kernel_rfl) | (rw [if_neg (by decide +kernel)]; exact ⟨rfl, rfl⟩))
    (fun os started H enc _ => lifted os started H enc)

theorem proved : Rows.FnExactBlocksKeySaid :=
  over
#print axioms proved
end Go.Proofs.YtbkjmcfkllljoaaGreat.fnExactBlocksKey
