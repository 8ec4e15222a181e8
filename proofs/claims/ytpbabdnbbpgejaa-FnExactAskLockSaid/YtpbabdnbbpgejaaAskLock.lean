/-
  The law FnExactAskLock returns true for every input, and its arguments read afterwards as before.
  No condition.
-/
import Derived.Test.YtpbabdnbbpgejaaRows
import Derived.Test.YtpbabdnbbpgejaaLocks7
import Derived.WalkKit
import Derived.ProofKit
import Derived.OpenShut
namespace Go.Proofs.Ytpbabdnbbpgejaa.fnExactAskLock
open Go.ChangeShapes Go.WideShapes Go.ChangeAt Go.RowKit Go.Ab

theorem own : ownKnob Try.prog.godebug = none := by kernel_rfl

set_option maxRecDepth 100000 in
theorem lifted (os : Os) (started : os.Started) (H : Type) (enc : TypeId × Value → H) :
    ReturnsInHanded {} Try.checked os 9 .any (Rows.fnExactAskLockSpec.pre6 enc Try.prog Try.f9 Rows.fnExactAskLockRow.domain false) (Rows.fnExactAskLockSpec.post enc Try.prog Try.f9 false true false false) := by
  refine returnsInHanded_of_change (C := Try.checked) own started (by kernel_rfl) Try.func9
    (ChangeSpec.witness6 (enc := enc) (C := Try.checked) false ⟨#[], #[.slice none 0 0, .slice none 0 0, .agg #[.string ⟨#[]⟩, .int .i64 0, .bool false]], []⟩ 8 (by kernel_rfl) (by kernel_rfl) (by kernel_rfl) (by kernel_rfl)) ?_
  intro W base args ds gs before hval0 hW hcnd _
  have hval : ∀ (j : Nat) t v, Try.f9.params[j]? = some t → args[j]? = some v → Value.okWide Try.prog W .any base t v := hval0
  have hW' := hW
  obtain ⟨p, q, hA0, hV, rfl, hfz, hnd⟩ := hW
  have hA : DataW.TrodAll enc Try.prog W 0 (fun _ => true) true Try.f9.params.toList args.toList ds p := hA0
  rw [Try.params9] at hA hval
  obtain ⟨v0, vs0, d0, ds0, p0, q0, hargs, rfl, rfl, h0, r0⟩ := trodAll_cons hA
  obtain ⟨v1, vs1, d1, ds1, p1, q1, rfl, rfl, rfl, h1, r1⟩ := trodAll_cons r0
  obtain ⟨v2, vs2, d2, ds2, p2, q2, rfl, rfl, rfl, h2, r2⟩ := trodAll_cons r1
  obtain ⟨rfl, rfl, rfl⟩ := trodAll_nil r2
  obtain rfl : args = #[v0, v1, v2] := by cases args; simp_all
  obtain ⟨rfl, rfl⟩ := trodVars_none hV
  obtain ⟨x0, e0, s0⟩ := open_arg (n := 8) roBelow (by kernel_rfl) h0 (hval 0 42 v0 rfl rfl)
  obtain ⟨a, rfl, o0⟩ := openV_list Try.underlying42 (open_Lock) s0
  obtain ⟨x1, e1, s1⟩ := open_arg (n := 8) roBelow (by kernel_rfl) h1 (hval 1 28 v1 rfl rfl)
  obtain ⟨f, rfl, o1⟩ := openV_list Try.underlying28 (open_int Try.underlying3) s1
  obtain ⟨x2, e2, s2⟩ := open_arg (n := 8) roBelow (by kernel_rfl) h2 (hval 2 52 v2 rfl rfl)
  obtain ⟨x, rfl, o2⟩ := openV_struct Try.underlying52 open_Lock s2
  refine (law_calls Try.func9 rfl (by kernel_rfl) (c_laws_FnExactAskLock a f x o0 o1 o2) (args := #[v0, v1, v2]) ?_).mono fun e W' ⟨he, hb⟩ => ?_
  · show LR _ _ _ [v0, v1, v2]
    unfold LR
    refine ⟨e0, ?_⟩
    unfold LR
    refine ⟨e1, ?_⟩
    unfold LR
    refine ⟨e2, ?_⟩
    unfold LR
    trivial
  · subst he
    exact ⟨_, rfl, law_post (by kernel_rfl) (by kernel_rfl) rfl Try.underlying4 hW' hb rfl rfl rfl rfl⟩

theorem over : Rows.fnExactAskLockRow.holds Try.pinned (OpenSpec.ofChange Rows.fnExactAskLockSpec) :=
  OpenClaim.holds_of_wide 9 Try.f9 rfl rfl rfl rfl rfl rfl rfl ⟨rfl, rfl, rfl, rfl, rfl⟩ rfl rfl rfl rfl rfl (by kernel_rfl) Try.func9 (by kernel_rfl)
    (of_decide_eq_true (by kernel_rfl)) (by unfold Func.isWrapper; first | (rw [if_pos (by decide +kernel)]; kernel_rfl) | (rw [if_neg (by decide +kernel)]; exact ⟨rfl, rfl⟩))
    (fun os started H enc _ => lifted os started H enc)

theorem proved : Rows.FnExactAskLockSaid :=
  over
#print axioms proved
end Go.Proofs.Ytpbabdnbbpgejaa.fnExactAskLock
