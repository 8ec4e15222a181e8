/-
  Functions that read and write through a pointer to a variable of cells without memory of their own.
  No condition: definitions and lemmas over any program.
-/
import Derived.Test.YthbheejeloomjaaGreatDoorM4
namespace Go.Ab
open Go.RowKit
set_option linter.unusedVariables false

/-- A variable of flat cells, its header h at block b. -/
def boxR (w : World) (ty : Nat) (cs : List AV) (h : Value) (b : Nat) : Prop :=
  h.blk = some b ∧ 0 < cs.length ∧ ∃ vs, OwnR w (fun x => x = b) ty cs.length h 1 vs ∧ (∀ u ∈ vs, u.oneCell' = true) ∧ LR w (fun _ => False) cs vs

/-- A function called with a pointer to a variable of flat cells cs (and flat arguments): it leaves cs' there, and gives r with the new objects os. -/
structure BC (P : Program) (f ty : Nat) (cs args : List AV) (r : AV) (os : List AObj) (cs' : List AV) : Prop where
  run : ∀ (w : World) (h : Value) (b : Nat) (vals : List Value), Tab w (fun x => x = b ∨ w.heap.size ≤ x) → boxR w ty cs h b → LR w (fun _ => False) args vals →
    Ans P f (Value.pointer (some ⟨b, 0, none⟩) :: vals).toArray w fun v w' => ∃ hdr, boxR w' ty cs' h b ∧ w.grownBy w' (some b) ∧ ResR (fun _ => False) false w w' hdr r os v

/-- The end of such a function. -/
@[irreducible] def OutB (P : Program) (rs : List ResultVar) (r : AV) (os : List AObj) (ty n : Nat) (cs' : List AV) (s : St) : Prop :=
  ∃ s', s.le s' ∧ ∃ ρ : List Nat, (ρ.length = os.length ∧ noDup ρ = true ∧ r.fine false os.length = true) ∧ resA P s' rs = some (named ρ r) ∧ (∀ k o, os[k]? = some o → s'.objs (ρ.getD k 0) = some o ∧ o.box = false) ∧
    (∀ o ∈ os, (o.isOwn || o.elems.flatten.all AV.flat) = true) ∧ s'.objs 0 = some ⟨.box, ty, n, [cs']⟩ ∧ s'.gh = [.ptr 0 0 0, .own 0] ∧ cs'.all AV.flat = true

end Go.Ab
