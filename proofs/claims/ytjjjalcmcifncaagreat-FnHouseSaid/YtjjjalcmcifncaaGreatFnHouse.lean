/-
  The law FnHouse returns true for every input, and its arguments read afterwards as before.
  No condition.
-/
import Derived.Test.YtjjjalcmcifncaaGreatRows
import Derived.Test.YtjjjalcmcifncaaGreatF7
import Derived.WalkKit
import Derived.ProofKit
import Derived.OpenShut
namespace Go.Proofs.YtjjjalcmcifncaaGreat.fnHouse
open Go.ChangeShapes Go.WideShapes Go.ChangeAt Go.RowKit Go.Ab
theorem own : ownKnob Tryz.prog.godebug = none := by kernel_rfl
set_option maxRecDepth 100000 in
theorem lifted (os : Os) (started : os.Started) (H : Type) (enc : TypeId × Value -> H) :
    ReturnsInHanded {} Tryz.checked os 3 .any (Rows.fnHouseSpec.pre6 enc Tryz.prog Tryz.f3 Rows.fnHouseRow.domain false) (Rows.fnHouseSpec.post enc Tryz.prog Tryz.f3 false true false false) := by
  refine returnsInHanded_of_change (C := Tryz.checked) own started (by kernel_rfl) Tryz.func3
    (ChangeSpec.witness6 (enc := enc) (C := Tryz.checked) false ⟨#[], #[.slice none 0 0], []⟩ 8 (by kernel_rfl) (by kernel_rfl) (by kernel_rfl) (by kernel_rfl)) ?_
  intro W base args ds gs before hval0 hW hcnd _
  have hval : ∀ (j : Nat) t v, Tryz.f3.params[j]? = some t -> args[j]? = some v -> Value.okWide Tryz.prog W .any base t v := hval0
  have hW' := hW
  obtain ⟨p, q, hA0, hV, rfl, hfz, hnd⟩ := hW
  have hA : DataW.TrodAll enc Tryz.prog W 0 (fun _ => true) true Tryz.f3.params.toList args.toList ds p := hA0
  rw [Tryz.params3] at hA hval
  obtain ⟨v0, vs0, d0, ds0, p0, q0, hargs, rfl, rfl, h0, r0⟩ := trodAll_cons hA
  obtain ⟨rfl, rfl, rfl⟩ := trodAll_nil r0
  obtain rfl : args = #[v0] := by cases args; simp_all
  obtain ⟨rfl, rfl⟩ := trodVars_none hV
  obtain ⟨x0, e0, s0⟩ := open_arg (n := 8) roBelow (by kernel_rfl) h0 (hval 0 22 v0 rfl rfl)
  obtain ⟨a, rfl, o0⟩ := openV_list Tryz.underlying22 (open_u8 Tryz.underlying5) s0
  refine (law_calls Tryz.func3 rfl (by kernel_rfl) (c_laws_FnHouse a o0) (args := #[v0]) ?_).mono fun e W' ⟨he, hb⟩ => ?_
  . show LR _ _ _ [v0]
    unfold LR
    refine ⟨e0, ?_⟩
    unfold LR
    trivial
  . subst he
    exact ⟨_, rfl, law_post (by kernel_rfl) (by kernel_rfl) rfl Tryz.underlying4 hW' hb rfl rfl rfl rfl⟩
theorem over : Rows.fnHouseRow.holds Tryz.pinned (OpenSpec.ofChange Rows.fnHouseSpec) :=
  OpenClaim.holds_of_wide 3 Tryz.f3 rfl rfl rfl rfl rfl rfl rfl ⟨rfl, rfl, rfl, rfl, rfl⟩ rfl rfl rfl rfl rfl (by kernel_rfl) Tryz.func3 (by kernel_rfl)
    (of_decide_eq_true (by kernel_rfl)) (by unfold Func.isWrapper; first | (rw [if_pos (by decide +kernel)]; kernel_rfl) | (rw [if_neg (by decide +kernel)]; exact ⟨rfl, rfl⟩))
    (fun os started H enc _ => lifted os started H enc)
theorem proved : Rows.FnHouseSaid :=
  over
#print axioms proved
end Go.Proofs.YtjjjalcmcifncaaGreat.fnHouse
