/-
  The law FnLost returns true for every input, and its arguments read afterwards as before.
  No condition.
-/
import Derived.Test.YtkalobhgonaibaaRows
import Derived.Test.YtkalobhgonaibaaLost4
import Derived.WalkKit
import Derived.ProofKit
import Derived.OpenShut
namespace Go.Proofs.Ytkalobhgonaibaa.fnLost
open Go.ChangeShapes Go.WideShapes Go.ChangeAt Go.RowKit Go.Ab

theorem own : ownKnob Try.prog.godebug = none := by kernel_rfl

set_option maxRecDepth 100000 in
theorem lifted (os : Os) (started : os.Started) (H : Type) (enc : TypeId × Value → H) :
    ReturnsInHanded {} Try.checked os 5 .any (Rows.fnLostSpec.pre6 enc Try.prog Try.f5 Rows.fnLostRow.domain false) (Rows.fnLostSpec.post enc Try.prog Try.f5 false true false false) := by
  refine returnsInHanded_of_change (C := Try.checked) own started (by kernel_rfl) Try.func5
    (ChangeSpec.witness6 (enc := enc) (C := Try.checked) false ⟨#[], #[.slice none 0 0], []⟩ 8 (by kernel_rfl) (by kernel_rfl) (by kernel_rfl) (by kernel_rfl)) ?_
  intro W base args ds gs before hval0 hW hcnd _
  have hval : ∀ (j : Nat) t v, Try.f5.params[j]? = some t → args[j]? = some v → Value.okWide Try.prog W .any base t v := hval0
  have hW' := hW
  obtain ⟨p, q, hA0, hV, rfl, hfz, hnd⟩ := hW
  have hA : DataW.TrodAll enc Try.prog W 0 (fun _ => true) true Try.f5.params.toList args.toList ds p := hA0
  rw [Try.params5] at hA hval
  obtain ⟨v0, vs0, d0, ds0, p0, q0, hargs, rfl, rfl, h0, r0⟩ := trodAll_cons hA
  obtain ⟨rfl, rfl, rfl⟩ := trodAll_nil r0
  obtain rfl : args = #[v0] := by cases args; simp_all
  obtain ⟨rfl, rfl⟩ := trodVars_none hV
  obtain ⟨x0, e0, s0⟩ := open_arg (n := 8) roBelow (by kernel_rfl) h0 (hval 0 31 v0 rfl rfl)
  obtain ⟨a, rfl, o0⟩ := openV_list Try.underlying31 (open_u8 Try.underlying5) s0
  refine (law_calls Try.func5 rfl (by kernel_rfl) (c_laws_FnLost a o0) (args := #[v0]) ?_).mono fun e W' ⟨he, hb⟩ => ?_
  · show LR _ _ _ [v0]
    unfold LR
    refine ⟨e0, ?_⟩
    unfold LR
    trivial
  · subst he
    exact ⟨_, rfl, law_post (by kernel_rfl) (by kernel_rfl) rfl Try.underlying4 hW' hb rfl rfl rfl rfl⟩

theorem over : Rows.fnLostRow.holds Try.pinned (OpenSpec.ofChange Rows.fnLostSpec) :=
  OpenClaim.holds_of_wide 5 Try.f5 rfl rfl rfl rfl rfl rfl rfl ⟨rfl, rfl, rfl, rfl, rfl⟩ rfl rfl rfl rfl rfl (by kernel_rfl) Try.func5 (by kernel_rfl)
    (of_decide_eq_true (by kernel_rfl)) (by unfold Func.isWrapper; first | (rw [if_pos (by decide +kernel)]; kernel_rfl) | (rw [if_neg (by decide +kernel)]; exact ⟨rfl, rfl⟩))
    (fun os started H enc _ => lifted os started H enc)

theorem proved : Rows.FnLostSaid :=
  over
#print axioms proved
end Go.Proofs.Ytkalobhgonaibaa.fnLost
