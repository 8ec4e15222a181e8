/-
  What the functions that ask a state give: blocks, BlocksKey, MayLook; MayLook's law.
  No condition.
-/
import Derived.Test.YtpbabdnbbpgejaaState11
namespace Go.Proofs.Ytpbabdnbbpgejaa
open Go.Ab
set_option linter.unusedSimpArgs false
set_option maxRecDepth 20000
set_option maxHeartbeats 4000000
set_option linter.unusedVariables false

theorem fil_yes {α β : Type} {p : α → Bool} {f : α → β} {C : β → List AV} {xs : List α} {k : Nat} {x : α} {L : List (List AV)} (hx : xs[k]? = some x) (hp : p x = true) (hL : L = [C (f x)]) : (((xs.take k).filter p).map f).map C ++ L = (((xs.take (k + 1)).filter p).map f).map C := by
  rw [hL, take_get hx, List.filter_append, List.map_append, List.map_append]
  simp [hp]
theorem fil_no {α β : Type} {p : α → Bool} {f : α → β} {C : β → List AV} {xs : List α} {k : Nat} {x : α} (hx : xs[k]? = some x) (hp : p x = false) : (((xs.take k).filter p).map f).map C = (((xs.take (k + 1)).filter p).map f).map C := by
  rw [take_get hx, List.filter_append]
  simp [hp]
theorem fil_end {α β : Type} {p : α → Bool} {f : α → β} {C : β → List AV} {xs : List α} {k : Nat} (hk : ¬ (k : Int) < xs.length) : (((xs.take k).filter p).map f).map C = ((xs.filter p).map f).map C := by rw [List.take_of_length_le (by omega)]
theorem fil_len {α β : Type} {p : α → Bool} {f : α → β} {C : β → List AV} {xs : List α} {k : Nat} (h : xs.length ≤ 1048576) : ((((xs.take k).filter p).map f).map C).length ≤ 2097152 := by
  rw [List.length_map, List.length_map]
  have h1 := List.length_filter_le p (xs.take k)
  rw [List.length_take] at h1
  omega
def blP (key : List UInt8) (time : Int) (h : HeldT) : Bool := wrote h.Writes key && decide (h.Time ≤ time)
def blI (key : List UInt8) (time : Int) (h : HeldT) : Bool := bsHit (wK key) h.Writes && decide (h.Time ≤ time)
def blocksS (s : StateT) (key : List UInt8) (time : Int) : List Int := (s.Held.filter (blP key time)).map HeldT.Txn
theorem blI_yes {key : List UInt8} {time : Int} {h : HeldT} (h1 : bsHit (wK key) h.Writes = true) (h2 : h.Time ≤ time) : blI key time h = true := by simp only [blI, h1, h2, decide_true, Bool.and_self]
theorem blI_no {key : List UInt8} {time : Int} {h : HeldT} (h1 : bsHit (wK key) h.Writes = false ∨ ¬ h.Time ≤ time) : blI key time h = false := by
  rcases h1 with h1 | h1 <;> simp only [blI, h1, decide_false, Bool.and_false, Bool.false_and]
theorem blP_yes {key : List UInt8} {time : Int} {h : HeldT} (h1 : wrote h.Writes key = true) (h2 : h.Time ≤ time) : blP key time h = true := by simp only [blP, h1, h2, decide_true, Bool.and_self]
theorem blP_no {key : List UInt8} {time : Int} {h : HeldT} (h1 : wrote h.Writes key = false ∨ ¬ h.Time ≤ time) : blP key time h = false := by
  rcases h1 with h1 | h1 <;> simp only [blP, h1, decide_false, Bool.and_false, Bool.false_and]
theorem okState_writes {s : StateT} (h : okStateS s = true) {x : HeldT} (hx : x ∈ s.Held) : okWrites x.Writes = true := by
  rw [← okState_eq] at h
  simp only [okStateI, areHeldI, Bool.and_eq_true] at h
  obtain ⟨pre, hp⟩ := allPre_mem h.1.1.2.1 hx
  simp only [heldI, Bool.and_eq_true] at hp
  exact okRec_writes hp.1.1.1.1
theorem blocks_eq {s : StateT} (h : okStateS s = true) (key : List UInt8) (time : Int) : (s.Held.filter (blI key time)).map HeldT.Txn = blocksS s key time := by
  unfold blocksS
  congr 1
  refine List.filter_congr fun x hx => ?_
  unfold blI blP
  rw [hit_wrote (okState_writes h hx)]
def okAsk (s : StateT) (key : List UInt8) (time : Int) : Bool := okStateS s && okKey key && inB 0 time 100000
def mayL (s : StateT) (key : List UInt8) (time : Int) : Bool := okAsk s key time && decide (((blocksS s key time).length : Int) = 0)
end Go.Proofs.Ytpbabdnbbpgejaa
