/-
  The law FnExactTellAfter returns true for every input, and its arguments read afterwards as before.
  No condition.
-/
import Derived.Test.YtldhlkgbnkibkaaRows
import Derived.Test.YtldhlkgbnkibkaaSpans5
import Derived.WalkKit
import Derived.ProofKit
import Derived.OpenShut
namespace Go.Proofs.Ytldhlkgbnkibkaa.fnExactTellAfter
open Go.ChangeShapes Go.WideShapes Go.ChangeAt Go.RowKit Go.Ab

theorem own : ownKnob Try.prog.godebug = none := by kernel_rfl

theorem shape0 {x : AV} (h : ShV Try.prog 4 32 x) : ∃ a0_0, x = .agg [.int .i64 a0_0] := by
  simp only [ShV, Sh, ShL, Try.underlying32, Try.underlying3] at h
  obtain ⟨xs, rfl, y0, z0, rfl, ⟨a0_0, rfl, _⟩, rfl⟩ := h
  exact ⟨a0_0, rfl⟩
theorem shape1 {x : AV} (h : ShV Try.prog 4 3 x) : ∃ a, x = .int .i64 a := by
  simp only [ShV, Sh, Try.underlying3] at h
  obtain ⟨a, h, _⟩ := h
  exact ⟨a, by simpa using h⟩
theorem shape2 {x : AV} (h : ShV Try.prog 4 3 x) : ∃ a, x = .int .i64 a := by
  simp only [ShV, Sh, Try.underlying3] at h
  obtain ⟨a, h, _⟩ := h
  exact ⟨a, by simpa using h⟩

set_option maxRecDepth 100000 in
theorem lifted (os : Os) (started : os.Started) (H : Type) (enc : TypeId × Value → H) :
    ReturnsInHanded {} Try.checked os 8 .any (Rows.fnExactTellAfterSpec.pre6 enc Try.prog Try.f8 Rows.fnExactTellAfterRow.domain false) (Rows.fnExactTellAfterSpec.post enc Try.prog Try.f8 false true false false) := by
  refine returnsInHanded_of_change (C := Try.checked) own started (by kernel_rfl) Try.func8
    (ChangeSpec.witness6 (enc := enc) (C := Try.checked) false ⟨#[], #[.agg #[.int .i64 0], .int .i64 0, .int .i64 0], []⟩ 8 (by kernel_rfl) (by kernel_rfl) (by kernel_rfl) (by kernel_rfl)) ?_
  intro W base args ds gs before hval0 hW hcnd _
  have hval : ∀ (j : Nat) t v, Try.f8.params[j]? = some t → args[j]? = some v → Value.okWide Try.prog W .any base t v := hval0
  have hW' := hW
  obtain ⟨p, q, hA0, hV, rfl, hfz, hnd⟩ := hW
  have hA : DataW.TrodAll enc Try.prog W 0 (fun _ => true) true Try.f8.params.toList args.toList ds p := hA0
  rw [Try.params8] at hA hval
  obtain ⟨v0, vs0, d0, ds0, p0, q0, hargs, rfl, rfl, h0, r0⟩ := trodAll_cons hA
  obtain ⟨v1, vs1, d1, ds1, p1, q1, rfl, rfl, rfl, h1, r1⟩ := trodAll_cons r0
  obtain ⟨v2, vs2, d2, ds2, p2, q2, rfl, rfl, rfl, h2, r2⟩ := trodAll_cons r1
  obtain ⟨rfl, rfl, rfl⟩ := trodAll_nil r2
  obtain rfl : args = #[v0, v1, v2] := by cases args; simp_all
  obtain ⟨rfl, rfl⟩ := trodVars_none hV
  obtain ⟨x0, e0, s0⟩ := open_arg (n := 4) roBelow (by kernel_rfl) h0 (hval 0 32 v0 rfl rfl)
  obtain ⟨a0_0, rfl⟩ := shape0 s0
  obtain ⟨x1, e1, s1⟩ := open_arg (n := 4) roBelow (by kernel_rfl) h1 (hval 1 3 v1 rfl rfl)
  obtain ⟨a1, rfl⟩ := shape1 s1
  obtain ⟨x2, e2, s2⟩ := open_arg (n := 4) roBelow (by kernel_rfl) h2 (hval 2 3 v2 rfl rfl)
  obtain ⟨a2, rfl⟩ := shape2 s2
  refine (law_calls (c_laws_FnExactTellAfter a0_0 a1 a2) (args := #[v0, v1, v2]) ?_).mono fun e W' ⟨he, hb⟩ => ?_
  · show LR _ _ _ [v0, v1, v2]
    unfold LR
    refine ⟨e0, ?_⟩
    unfold LR
    refine ⟨e1, ?_⟩
    unfold LR
    refine ⟨e2, ?_⟩
    unfold LR
    trivial
  · subst he
    exact ⟨_, rfl, law_post (by kernel_rfl) (by kernel_rfl) rfl Try.underlying4 hW' hb rfl rfl rfl rfl⟩

theorem over : Rows.fnExactTellAfterRow.holds Try.pinned (OpenSpec.ofChange Rows.fnExactTellAfterSpec) :=
  OpenClaim.holds_of_wide 8 Try.f8 rfl rfl rfl rfl rfl rfl rfl ⟨rfl, rfl, rfl, rfl, rfl⟩ rfl rfl rfl rfl rfl (by kernel_rfl) Try.func8 (by kernel_rfl)
    (of_decide_eq_true (by kernel_rfl)) (by unfold Func.isWrapper; first | (rw [if_pos (by decide +kernel)]; kernel_rfl) | (rw [if_neg (by decide +kernel)]; exact ⟨rfl, rfl⟩))
    (fun os started H enc _ => lifted os started H enc)

theorem proved : Rows.FnExactTellAfterSaid :=
  over
#print axioms proved
end Go.Proofs.Ytldhlkgbnkibkaa.fnExactTellAfter
