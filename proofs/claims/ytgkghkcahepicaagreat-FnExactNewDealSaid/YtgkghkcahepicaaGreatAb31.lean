/-
  Functions that read and write through a pointer to a variable of cells without memory of their own.
  No condition: definitions and lemmas over any program.
-/
import Derived.Test.YtgkghkcahepicaaGreatM4
namespace Go.Ab
open Go.RowKit
set_option linter.unusedVariables false

def boxR (w : World) (ty : Nat) (cs : List AV) (h : Value) (b : Nat) : Prop :=
  h.blk = some b ∧ 0 < cs.length ∧ ∃ vs, OwnR w (fun x => x = b) ty cs.length h 1 vs ∧ (∀ u ∈ vs, u.oneCell' = true) ∧ LR w (fun _ => False) cs vs

structure BC (P : Program) (f ty : Nat) (cs args : List AV) (r : AV) (os : List AObj) (cs' : List AV) : Prop where
  run : ∀ (w : World) (h : Value) (b : Nat) (vals : List Value), boxR w ty cs h b → LR w (fun _ => False) args vals →
    Ans P f (Value.pointer (some ⟨b, 0, none⟩) :: vals).toArray w fun v w' => ∃ hdr, boxR w' ty cs' h b ∧ w.grownBy w' (some b) ∧ ResR (fun _ => False) false w w' hdr r os v

theorem Loop_nilB {body : (Exit → St → Prop) → St → Prop} {K : Exit → St → Prop} {e : Nat → AV} {z : Nat} {o : Nat → Option AObj} {n : Nat} {g : List AV} (id nid ty esz j : Nat) {tb eb : Nat} {cells : List AV} (ho : o id = some ⟨.box, tb, eb, [cells]⟩) (hj : cells[j]? = some .nil) (hid : o nid = none) (hpos : 0 < esz)
    (h : Loop body K ⟨e, z, fun i => if i = nid then some ⟨.slc, ty, esz, []⟩ else if i = id then some ⟨.box, tb, eb, [cells.set j (.own nid)]⟩ else o i, n, g⟩) : Loop body K ⟨e, z, o, n, g⟩ := by
  unfold Loop at h ⊢
  obtain ⟨J, I, m, j0, h0, hb⟩ := h
  exact ⟨J, I, m, j0, St.le_trans (St.le_promoteB (s := ⟨e, z, o, n, g⟩) ho hj hid hpos) h0, hb⟩

end Go.Ab
