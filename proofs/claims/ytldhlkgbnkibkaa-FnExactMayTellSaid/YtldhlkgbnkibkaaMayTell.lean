/-
  The law FnExactMayTell returns true for every input, and its arguments read afterwards as before.
  No condition.
-/
import Derived.Test.YtldhlkgbnkibkaaRows
import Derived.Test.YtldhlkgbnkibkaaSpans
import Derived.WalkKit
import Derived.ProofKit
import Derived.OpenShut
namespace Go.Proofs.Ytldhlkgbnkibkaa.fnExactMayTell
open Go.ChangeShapes Go.WideShapes Go.ChangeAt Go.RowKit Go.Ab

theorem own : ownKnob Try.prog.godebug = none := by kernel_rfl

theorem shape0 {x : AV} (h : ShV Try.prog 4 26 x) : ∃ a b, x = .agg [.int .i64 a, .int .i64 b] := by
  simp only [ShV, Sh, ShL, Try.underlying26, Try.underlying3] at h
  obtain ⟨xs, rfl, y, z, rfl, ⟨a, rfl, _⟩, y2, z2, rfl, ⟨b, rfl, _⟩, rfl⟩ := h
  exact ⟨a, b, rfl⟩
theorem shape1 {x : AV} (h : ShV Try.prog 4 3 x) : ∃ a, x = .int .i64 a := by
  simp only [ShV, Sh, Try.underlying3] at h
  obtain ⟨a, h, _⟩ := h
  exact ⟨a, by simpa using h⟩

set_option maxRecDepth 100000 in
theorem lifted (os : Os) (started : os.Started) (H : Type) (enc : TypeId × Value → H) :
    ReturnsInHanded {} Try.checked os 4 .any (Rows.fnExactMayTellSpec.pre6 enc Try.prog Try.f4 Rows.fnExactMayTellRow.domain false) (Rows.fnExactMayTellSpec.post enc Try.prog Try.f4 false true false false) := by
  refine returnsInHanded_of_change (C := Try.checked) own started (by kernel_rfl) Try.func4
    (ChangeSpec.witness6 (enc := enc) (C := Try.checked) false ⟨#[], #[.agg #[.int .i64 0, .int .i64 0], .int .i64 0], []⟩ 8 (by kernel_rfl) (by kernel_rfl) (by kernel_rfl) (by kernel_rfl)) ?_
  intro W base args ds gs before hval0 hW hcnd _
  have hval : ∀ (j : Nat) t v, Try.f4.params[j]? = some t → args[j]? = some v → Value.okWide Try.prog W .any base t v := hval0
  have hW' := hW
  obtain ⟨p, q, hA0, hV, rfl, hfz, hnd⟩ := hW
  have hA : DataW.TrodAll enc Try.prog W 0 (fun _ => true) true Try.f4.params.toList args.toList ds p := hA0
  rw [Try.params4] at hA hval
  obtain ⟨v0, vs0, d0, ds0, p0, q0, hargs, rfl, rfl, h0, r0⟩ := trodAll_cons hA
  obtain ⟨v1, vs1, d1, ds1, p1, q1, rfl, rfl, rfl, h1, r1⟩ := trodAll_cons r0
  obtain ⟨rfl, rfl, rfl⟩ := trodAll_nil r1
  obtain rfl : args = #[v0, v1] := by cases args; simp_all
  obtain ⟨rfl, rfl⟩ := trodVars_none hV
  obtain ⟨x0, e0, s0⟩ := open_arg (n := 4) roBelow (by kernel_rfl) h0 (hval 0 26 v0 rfl rfl)
  obtain ⟨x1, e1, s1⟩ := open_arg (n := 4) roBelow (by kernel_rfl) h1 (hval 1 3 v1 rfl rfl)
  obtain ⟨a, b, rfl⟩ := shape0 s0
  obtain ⟨c, rfl⟩ := shape1 s1
  refine (law_calls (c_laws_FnExactMayTell a b c) (args := #[v0, v1]) ?_).mono fun e W' ⟨he, hb⟩ => ?_
  · show LR _ _ _ [v0, v1]
    unfold LR
    refine ⟨e0, ?_⟩
    unfold LR
    refine ⟨e1, ?_⟩
    unfold LR
    trivial
  · subst he
    exact ⟨_, rfl, law_post (by kernel_rfl) (by kernel_rfl) rfl Try.underlying4 hW' hb rfl rfl rfl rfl⟩

theorem over : Rows.fnExactMayTellRow.holds Try.pinned (OpenSpec.ofChange Rows.fnExactMayTellSpec) :=
  OpenClaim.holds_of_wide 4 Try.f4 rfl rfl rfl rfl rfl rfl rfl ⟨rfl, rfl, rfl, rfl, rfl⟩ rfl rfl rfl rfl rfl (by kernel_rfl) Try.func4 (by kernel_rfl)
    (of_decide_eq_true (by kernel_rfl)) (by unfold Func.isWrapper; first | (rw [if_pos (by decide +kernel)]; kernel_rfl) | (rw [if_neg (by decide +kernel)]; exact ⟨rfl, rfl⟩))
    (fun os started H enc _ => lifted os started H enc)

theorem proved : Rows.FnExactMayTellSaid :=
  over
#print axioms proved
end Go.Proofs.Ytldhlkgbnkibkaa.fnExactMayTell
