/-
  The law FnExactTearHouse returns true for every input, and its arguments read afterwards as before.
  No condition.
-/
import Derived.Test.YtfpkfnfgloonhaaGreatRows
import Derived.Test.YtfpkfnfgloonhaaGreatF5
import Derived.WalkKit
import Derived.ProofKit
import Derived.OpenShut
namespace Go.Proofs.YtfpkfnfgloonhaaGreat.fnExactTearHouse
open Go.ChangeShapes Go.WideShapes Go.ChangeAt Go.RowKit Go.Ab

theorem own : ownKnob Tryz.prog.godebug = none := by kernel_rfl

set_option maxRecDepth 100000 in
theorem lifted (os : Os) (started : os.Started) (H : Type) (enc : TypeId × Value → H) :
    ReturnsInHanded {} Tryz.checked os 7 .any (Rows.fnExactTearHouseSpec.pre6 enc Tryz.prog Tryz.f7 Rows.fnExactTearHouseRow.domain false) (Rows.fnExactTearHouseSpec.post enc Tryz.prog Tryz.f7 false true false false) := by
  refine returnsInHanded_of_change (C := Tryz.checked) own started (by kernel_rfl) Tryz.func7
    (ChangeSpec.witness6 (enc := enc) (C := Tryz.checked) false ⟨#[], #[.agg #[.slice none 0 0, .int .i64 0, .int .i64 0, .slice none 0 0], .agg #[.int .i64 0, .int .i64 0, .int .i64 0, .int .i64 0, .slice none 0 0, .slice none 0 0, .bool false], .int .i64 0, .bool false], []⟩ 8 (by kernel_rfl) (by kernel_rfl) (by kernel_rfl) (by kernel_rfl)) ?_
  intro W base args ds gs before hval0 hW hcnd _
  have hval : ∀ (j : Nat) t v, Tryz.f7.params[j]? = some t → args[j]? = some v → Value.okWide Tryz.prog W .any base t v := hval0
  have hW' := hW
  obtain ⟨p, q, hA0, hV, rfl, hfz, hnd⟩ := hW
  have hA : DataW.TrodAll enc Tryz.prog W 0 (fun _ => true) true Tryz.f7.params.toList args.toList ds p := hA0
  rw [Tryz.params7] at hA hval
  obtain ⟨v0, vs0, d0, ds0, p0, q0, hargs, rfl, rfl, h0, r0⟩ := trodAll_cons hA
  obtain ⟨v1, vs1, d1, ds1, p1, q1, rfl, rfl, rfl, h1, r1⟩ := trodAll_cons r0
  obtain ⟨v2, vs2, d2, ds2, p2, q2, rfl, rfl, rfl, h2, r2⟩ := trodAll_cons r1
  obtain ⟨v3, vs3, d3, ds3, p3, q3, rfl, rfl, rfl, h3, r3⟩ := trodAll_cons r2
  obtain ⟨rfl, rfl, rfl⟩ := trodAll_nil r3
  obtain rfl : args = #[v0, v1, v2, v3] := by cases args; simp_all
  obtain ⟨rfl, rfl⟩ := trodVars_none hV
  obtain ⟨x0, e0, s0⟩ := open_arg (n := 12) roBelow (by kernel_rfl) h0 (hval 0 27 v0 rfl rfl)
  obtain ⟨a, rfl, o0⟩ := openV_struct Tryz.underlying27 open_House s0
  obtain ⟨x1, e1, s1⟩ := open_arg (n := 12) roBelow (by kernel_rfl) h1 (hval 1 31 v1 rfl rfl)
  obtain ⟨x, rfl, o1⟩ := openV_struct Tryz.underlying31 open_Rec s1
  obtain ⟨x2, e2, s2⟩ := open_arg (n := 12) roBelow (by kernel_rfl) h2 (hval 2 3 v2 rfl rfl)
  obtain ⟨k, rfl, o2⟩ := openV_int Tryz.underlying3 s2
  obtain ⟨x3, e3, s3⟩ := open_arg (n := 12) roBelow (by kernel_rfl) h3 (hval 3 4 v3 rfl rfl)
  obtain ⟨torn, rfl, o3⟩ := openV_bool Tryz.underlying4 s3
  refine (law_calls Tryz.func7 rfl (by kernel_rfl) (c_laws_FnExactTearHouse a x k torn o0 o1) (args := #[v0, v1, v2, v3]) ?_).mono fun e W' ⟨he, hb⟩ => ?_
  · show LR _ _ _ [v0, v1, v2, v3]
    unfold LR
    refine ⟨e0, ?_⟩
    unfold LR
    refine ⟨e1, ?_⟩
    unfold LR
    refine ⟨e2, ?_⟩
    unfold LR
    refine ⟨e3, ?_⟩
    unfold LR
    trivial
  · subst he
    exact ⟨_, rfl, law_post (by kernel_rfl) (by kernel_rfl) rfl Tryz.underlying4 hW' hb rfl rfl rfl rfl⟩

theorem joined1 : laidOutB Tryz.prog = true := by kernel_rfl
theorem joined2 : (Rows.fnExactTearHouseRow.inPlace == Tryz.prog.inPlace 7) = true := by kernel_rfl
theorem joined3 : (Rows.fnExactTearHouseRow.unfollowed == Tryz.prog.unfollowed 7) = true := by kernel_rfl
theorem joined4 : (Rows.fnExactTearHouseRow.recurses == Tryz.prog.recurses 7) = true := by kernel_rfl
theorem joined5 : (Rows.fnExactTearHouseRow.named == Tryz.prog.varsNamed 7) = true := by kernel_rfl
theorem joined6 : Tryz.prog.mayEnter = true := by kernel_rfl
theorem joined : joinedFacts Tryz.prog 7 Tryz.f7 Rows.fnExactTearHouseSpec Rows.fnExactTearHouseRow = true := by
  unfold joinedFacts
  rw [joined1, joined2, joined3, joined4, joined5, joined6]
  kernel_rfl

theorem over : Rows.fnExactTearHouseRow.holds Tryz.pinned (OpenSpec.ofChange Rows.fnExactTearHouseSpec) :=
  OpenClaim.holds_of_wide 7 Tryz.f7 rfl rfl rfl rfl rfl rfl rfl ⟨rfl, rfl, rfl, rfl, rfl⟩ rfl rfl rfl rfl rfl (by kernel_rfl) Tryz.func7 joined
    (of_decide_eq_true (by kernel_rfl)) (by unfold Func.isWrapper; first | (rw [if_pos (by decide +kernel)]; kernel_rfl) | (rw [if_neg (by decide +kernel)]; exact ⟨rfl, rfl⟩))
    (fun os started H enc _ => lifted os started H enc)

theorem proved : Rows.FnExactTearHouseSaid :=
  over
#print axioms proved
end Go.Proofs.YtfpkfnfgloonhaaGreat.fnExactTearHouse
