/-
  The law FnExactRunAlone returns true for every input, and its arguments read afterwards as before.
  No condition.
-/
import Derived.Test.YthbheejeloomjaaGreatDoorRows
import Derived.Test.YthbheejeloomjaaGreatDoorRun3
import Derived.WalkKit
import Derived.ProofKit
import Derived.OpenShut
import Derived.Test.YthbheejeloomjaaGreatDoorCards
import Derived.Test.YthbheejeloomjaaGreatDoorTie
import Derived.Test.YthbheejeloomjaaGreatDoorLaid
import Derived.LaidMore
import Derived.Stop.Joined
import Derived.SevenTiedAt
namespace Go.Proofs.YthbheejeloomjaaGreatDoor.fnExactRunAlone
open Go.ChangeShapes Go.WideShapes Go.ChangeAt Go.RowKit Go.Ab

theorem own : ownKnob Tryz.prog.godebug = none := by kernel_rfl

set_option maxRecDepth 100000 in
theorem lifted (os : Os) (started : os.Started) (H : Type) (enc : TypeId × Value → H) :
    ReturnsInHanded {} Tryz.checked os 4 .any (fun w args => (Rows.fnExactRunAloneSpec.pre enc Tryz.prog Tryz.f4 [] false w args ∧ laidMetH Tryz.prog laidS w) ∧ sizedMet enc Tryz.prog Tryz.f4 (OpenSpec.ofChange Rows.fnExactRunAloneSpec) false w args)
      (Rows.fnExactRunAloneSpec.post enc Tryz.prog Tryz.f4 false true false false) := by
  refine returnsInHanded_of_change_and (C := Tryz.checked) (X := fun w _ => laidMetH Tryz.prog laidS w) (fun _ _ _ hh h => h.of_heap hh) own started (by kernel_rfl) Tryz.func4
    (ChangeSpec.witness_shaped (enc := enc) (C := Tryz.checked) (os := os) (X := fun w _ => laidMetH Tryz.prog laidS w) false (World.doorLaid Tryz.prog 400 os) #[.slice none 0 0, .slice none 0 0] 8 rfl (World.shaped_of_RefB (by kernel_rfl) (by kernel_rfl)) (by kernel_rfl) (by kernel_rfl) (by kernel_rfl) (door_met os _)) ?_
  intro W base args ds gs before hval0 hW _ _ hL _
  rw [MakeChecks.laidMetH_plain _ _ _ (by kernel_rfl)] at hL
  have hTab := tab_laid hL
  have hval : ∀ (j : Nat) t v, Tryz.f4.params[j]? = some t → args[j]? = some v → Value.okWide Tryz.prog W .any base t v := hval0
  have hW' := hW
  obtain ⟨p, q, hA0, hV, rfl, hfz, hnd⟩ := hW
  have hA : DataW.TrodAll enc Tryz.prog W 0 (fun _ => true) true Tryz.f4.params.toList args.toList ds p := hA0
  rw [Tryz.params4] at hA hval
  obtain ⟨v0, vs0, d0, ds0, p0, q0, hargs, rfl, rfl, h0, r0⟩ := trodAll_cons hA
  obtain ⟨v1, vs1, d1, ds1, p1, q1, rfl, rfl, rfl, h1, r1⟩ := trodAll_cons r0
  obtain ⟨rfl, rfl, rfl⟩ := trodAll_nil r1
  obtain rfl : args = #[v0, v1] := by cases args; simp_all
  obtain ⟨rfl, rfl⟩ := trodVars_none hV
  obtain ⟨x0, e0, s0⟩ := open_arg (n := 12) roBelow (by kernel_rfl) h0 (hval 0 40 v0 rfl rfl)
  obtain ⟨a, rfl, o0⟩ := openV_list Tryz.underlying40 (open_Write) s0
  obtain ⟨x1, e1, s1⟩ := open_arg (n := 12) roBelow (by kernel_rfl) h1 (hval 1 22 v1 rfl rfl)
  obtain ⟨g, rfl, o1⟩ := openV_list Tryz.underlying22 (open_Op) s1
  refine (law_calls Tryz.func4 rfl (by kernel_rfl) (c_laws_FnExactRunAlone a g o0 o1) (args := #[v0, v1]) ?_ hTab).mono fun e W' ⟨he, hb⟩ => ?_
  · show LR _ _ _ [v0, v1]
    unfold LR
    refine ⟨e0, ?_⟩
    unfold LR
    refine ⟨e1, ?_⟩
    unfold LR
    trivial
  · subst he
    exact ⟨_, rfl, law_post (by kernel_rfl) (by kernel_rfl) rfl Tryz.underlying4 hW' hb rfl rfl rfl rfl⟩

theorem joined1 : laidOutB Tryz.prog = true := by kernel_rfl
theorem joined2 : (Rows.fnExactRunAloneRow.inPlace == Tryz.prog.inPlace 4) = true := by kernel_rfl
theorem joined3 : (Rows.fnExactRunAloneRow.unfollowed == Tryz.prog.unfollowed 4) = true := by kernel_rfl
theorem joined4 : (Rows.fnExactRunAloneRow.recurses == Tryz.prog.recurses 4) = true := by kernel_rfl
theorem joined5 : (Rows.fnExactRunAloneRow.named == Tryz.prog.varsNamed 4) = true := by kernel_rfl
theorem joined6 : Tryz.prog.mayEnter = true := by kernel_rfl
theorem joined : joinedFacts Tryz.prog 4 Tryz.f4 Rows.fnExactRunAloneSpec Rows.fnExactRunAloneRow = true := by
  unfold joinedFacts
  rw [joined1, joined2, joined3, joined4, joined5, joined6]
  kernel_rfl

theorem over : Rows.fnExactRunAloneRow.holds Tryz.pinned (OpenSpec.ofChange Rows.fnExactRunAloneSpec) :=
  OpenClaim.holds_of_wide 4 Tryz.f4 rfl rfl rfl rfl rfl rfl rfl ⟨rfl, rfl, rfl, rfl, rfl⟩ rfl rfl rfl rfl rfl (by kernel_rfl) Tryz.func4 joined
    (of_decide_eq_true (by kernel_rfl)) (by unfold Func.isWrapper; first | (rw [if_pos (by decide +kernel)]; kernel_rfl) | (rw [if_neg (by decide +kernel)]; exact ⟨rfl, rfl⟩))
    (fun os started H enc _ => lifted os started H enc)

theorem proved : Rows.FnExactRunAloneCardSaid :=
  Claim7.holds_tied_plain_at .later [] [.data, .data, .data, .sentinel, .sentinel] true (true, "d57754b58650c51802a7238e321bbc8cb526d1fc01615cfb720edc2fc6255eaf") true
    over (fun _ h => by cases h) (by kernel_rfl) (fun _ h => by cases h) fnExactRunAlone_row_tie rfl ⟨rfl, rfl⟩ (by kernel_rfl) rfl
    (fun f fn hf hfn => by
      obtain rfl : f = 4 := Option.some.inj ((show Tryz.prog.funcNamed "loop.example/g00850/laws.FnExactRunAlone" = some 4 by kernel_rfl).symm.trans hf) |>.symm
      obtain rfl : fn = Tryz.f4 := (Option.some.inj (Tryz.func4.symm.trans hfn)).symm
      exact ⟨by kernel_rfl, fun j t ht => by
        rw [Tryz.params4] at ht
        rcases j with _ | _ | j
        · obtain rfl : t = 40 := by simpa using ht.symm
          exact (show Tryz.prog.wantsStandIn 40 = false by kernel_rfl)
        · obtain rfl : t = 22 := by simpa using ht.symm
          exact (show Tryz.prog.wantsStandIn 22 = false by kernel_rfl)
        · simp at ht⟩)
    (by kernel_rfl)
#print axioms proved
end Go.Proofs.YthbheejeloomjaaGreatDoor.fnExactRunAlone
