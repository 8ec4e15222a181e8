/-
  Functions that read and write through a pointer to a variable of cells without memory of their own.
  No condition: definitions and lemmas over any program.
-/
import Derived.Test.YthbheejeloomjaaGreatDoorM4
namespace Go.Ab
open Go.RowKit
set_option linter.unusedVariables false

def boxR (w : World) (ty : Nat) (cs : List AV) (h : Value) (b : Nat) : Prop :=
  h.blk = some b ∧ 0 < cs.length ∧ ∃ vs, OwnR w (fun x => x = b) ty cs.length h 1 vs ∧ (∀ u ∈ vs, u.oneCell' = true) ∧ LR w (fun _ => False) cs vs

structure BC (P : Program) (f ty : Nat) (cs args : List AV) (r : AV) (os : List AObj) (cs' : List AV) : Prop where
  run : ∀ (w : World) (h : Value) (b : Nat) (vals : List Value), Tab w (fun x => x = b ∨ w.heap.size ≤ x) → boxR w ty cs h b → LR w (fun _ => False) args vals →
    Ans P f (Value.pointer (some ⟨b, 0, none⟩) :: vals).toArray w fun v w' => ∃ hdr, boxR w' ty cs' h b ∧ w.grownBy w' (some b) ∧ ResR (fun _ => False) false w w' hdr r os v

end Go.Ab
