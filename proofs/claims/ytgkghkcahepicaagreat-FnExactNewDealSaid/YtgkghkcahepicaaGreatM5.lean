/-
  Parts of an object as values: slices of it, their lengths, copies, clears and appends in place.
  The rules of the operations on parts of objects.
  Appends to parts of objects; slices.overlaps; a part that becomes the object.
  Contracts of functions that objects are handed over to.
  A call of a function that objects are handed over to.
  Plain laws: lists from which elements are struck, into which elements are put.
  A slice that lies in a cell of an object becomes an object of its own (an append to it).
  A copy out of a part of an object of which only the first elements are known.
  No condition: definitions and lemmas over any program.
-/
import Derived.Test.YtgkghkcahepicaaGreatAb31
import Derived.Lib.Overlaps
namespace Go.Ab
open Go.RowKit
set_option linter.unusedVariables false

section
variable {F : Nat → Prop} {w0 : Base} {gv : List Value} {s : St} {a : Act} {w : World} {hdr : Nat → Hdr}

end

/-! The runs of copy and clear. -/
end Go.Ab
namespace Go.Ab
open Go.RowKit
set_option linter.unusedVariables false

section
variable {P : Program} {s : St} {K : St → Prop} {dst : Option Tmp} {type : TypeId} {pos : String} {after : Array Edge} {guard : Option (Nat × Bool)} {nid : Nat}

end
end Go.Ab
namespace Go.Ab
open Go.RowKit
set_option linter.unusedVariables false

section
variable {P : Program} {s : St} {K : St → Prop} {dst : Option Tmp} {type : TypeId} {pos : String} {after : Array Edge} {guard : Option (Nat × Bool)} {nid : Nat}

end
end Go.Ab
namespace Go.Ab
open Go.RowKit
set_option linter.unusedVariables false

structure XRes (os : List AObj) (hdr : Nat → Hdr) (os' : List AObj) (r : AV) (w w' : World) (hdr' : Nat → Hdr) (v : Value) : Prop where
  sys : w'.os = w.os
  tape : w'.tape = w.tape
  output : w'.output = w.output
  size : w.heap.size ≤ w'.heap.size
  block : ∀ k, k < w.heap.size → (∀ (i : Nat) o, os[i]? = some o → ¬ (hdr i).has k) → w'.heap[k]? = w.heap[k]?
  val : VR ⟨w', fun _ => False, hdr', fun i => os'[i]?⟩ r v
  objs : ∀ (i : Nat) o, os'[i]? = some o → o.box = false ∧ ObjR (fun b => w.heap.size ≤ b ∨ ∃ (j : Nat) (oj : AObj), os[j]? = some oj ∧ (hdr j).has b) ⟨w', fun _ => False, hdr', fun i => os'[i]?⟩ o (hdr' i)
  dis : ∀ (i j : Nat) o o' b, os'[i]? = some o → os'[j]? = some o' → (hdr' i).has b → (hdr' j).has b → i = j

structure XC (P : Program) (f : Nat) (os : List AObj) (args : List AV) (r : AV) (os' : List AObj) : Prop where
  run : ∀ (w : World) (R : Nat → Prop) (hdr : Nat → Hdr) (vals : List Value),
    (∀ b, R b → b < w.heap.size ∧ ∀ (i : Nat) o, os[i]? = some o → ¬ (hdr i).has b) →
    (∀ (i : Nat) o, os[i]? = some o → ObjR (fun _ => True) ⟨w, R, hdr, fun i => os[i]?⟩ o (hdr i)) →
    (∀ (i j : Nat) o o' b, os[i]? = some o → os[j]? = some o' → (hdr i).has b → (hdr j).has b → i = j) →
    VL ⟨w, R, hdr, fun i => os[i]?⟩ args vals →
    Ans P f vals.toArray w fun v w' => ∃ hdr', XRes os hdr os' r w w' hdr' v

section
variable {F : Nat → Prop} {w0 : Base} {gv : List Value} {s : St} {a : Act} {w : World} {hdr : Nat → Hdr} {R : Nat → Prop} {ids : List Nat}

end
end Go.Ab
namespace Go.Ab
open Go.RowKit
set_option linter.unusedVariables false

end Go.Ab
namespace Go.Ab
open Go.RowKit
set_option linter.unusedVariables false

def deNil (a : AV) : AV := match a with | .nil => .sl [] | a => a
def posS : Shp → Bool
  | .leaf => true
  | .sl _ e _ => Nat.blt 0 e
theorem TR.deNil {w : World} {a : AV} {sh : Shp} {v : Value} {S : List Nat} (hp : posS sh = true) (h : TR w a sh v S) : TR w (deNil a) sh v S := by
  unfold Ab.deNil
  split
  · unfold TR at h
    obtain ⟨⟨ty, esz, cells, rfl⟩, ⟨base, rfl⟩, rfl⟩ := h
    have hpos : 0 < esz := Nat.le_of_ble_eq_true hp
    unfold TR
    refine ⟨ty, esz, cells, [], [], rfl, hpos, ⟨by simp, .inl ⟨base, rfl, rfl⟩⟩, by simp, by rw [blk_zero]; rfl, ?_⟩
    unfold TEs
    exact ⟨rfl, rfl⟩
  · exact h
theorem TL.deNil {w : World} : ∀ {al : List AV} {shs : List Shp} {vs : List Value} {S : List Nat}, shs.all posS = true → TL w al shs vs S → TL w (al.map Ab.deNil) shs vs S
  | [], shs, vs, S, _, h => by simpa using h
  | a :: al, shs, vs, S, hp, h => by
    unfold TL at h
    obtain ⟨sh, shs', v, vs', S1, S2, rfl, rfl, rfl, h1, h2⟩ := h
    simp only [List.all_cons, Bool.and_eq_true] at hp
    simp only [List.map_cons]
    unfold TL
    exact ⟨sh, shs', v, vs', S1, S2, rfl, rfl, rfl, TR.deNil hp.1 h1, TL.deNil hp.2 h2⟩
theorem TEs.deNil {w : World} {esz : Nat} {cells : List Shp} (hp : cells.all posS = true) : ∀ {xs : List (List AV)} {vs : List Value} {S : List Nat}, TEs w esz cells xs vs S → TEs w esz cells (xs.map (List.map Ab.deNil)) vs S
  | [], vs, S, h => by simpa using h
  | x :: xs, vs, S, h => by
    unfold TEs at h
    obtain ⟨v1, v2, S1, S2, e1, e2, e3, h1, h2⟩ := h
    simp only [List.map_cons]
    unfold TEs
    exact ⟨v1, v2, S1, S2, e1, e2, e3, TL.deNil hp h1, TEs.deNil hp h2⟩
theorem St.le_deNil {s : St} {ty esz : Nat} {sh : List Shp} {es : List (List AV)} (id : Nat) (ho : s.objs id = some ⟨.deep sh, ty, esz, es⟩) (hp : sh.all posS = true) : s.le (takeIn s [] id ⟨.deep sh, ty, esz, es.map (List.map deNil)⟩) := by
  intro F w0 gv a w ⟨hdr, hs⟩
  obtain ⟨hpos, hlens, hnd, cs, hrow, hone, hcl⟩ := hs.objs id _ ho
  have hH : (fun i => if i = id then hdr id else hdr i) = hdr := by
    funext i
    by_cases e : i = id
    · simp [e]
    · simp [e]
  have := hs.moved (ids := []) (id := id) (o' := ⟨.deep sh, ty, esz, es.map (List.map deNil)⟩) (w' := w) (h' := hdr id) rfl rfl rfl (Nat.le_refl _) (fun _ _ _ => rfl) (fun _ o1 h1 => by rw [ho] at h1; cases h1; exact ⟨rfl, rfl⟩) ?_ ?_
  · exact ⟨_, this⟩
  · intro _
    refine ⟨hpos, fun e he => ?_, hnd, cs, ?_, hone, CellsR_deep (sh := sh) rfl ?_⟩
    · simp only [List.mem_map] at he
      obtain ⟨e0, h0, rfl⟩ := he
      rw [List.length_map]
      exact hlens e0 h0
    · show OwnR w w0.N ty esz (hdr id).v (es.map (List.map deNil)).length cs
      rw [List.length_map]
      exact hrow
    · exact TEs.deNil hp (hcl.deep rfl)
  · intro b hb
    exact .inl ⟨_, ho, hb⟩
theorem OutA_deNil {P : Program} {sh : Bool} {rs : List ResultVar} {r : AV} {os : List AObj} {s : St} {ty esz : Nat} {shp : List Shp} {es : List (List AV)} (id : Nat) (ho : s.objs id = some ⟨.deep shp, ty, esz, es⟩) (hp : shp.all posS = true)
    (h : OutA P sh rs r os (takeIn s [] id ⟨.deep shp, ty, esz, es.map (List.map deNil)⟩)) : OutA P sh rs r os s := OutA_le (St.le_deNil id ho hp) h

section
variable {α : Type} {q : α → Bool} {xs es : List α} {i j : Nat} {x : α}

theorem idxF_some : ∀ {xs : List α} {k i : Nat}, idxF q k xs = ((k + i : Nat) : Int) → ∃ x, xs[i]? = some x ∧ q x = true ∧ ∀ y ∈ xs.take i, q y = false
  | [], k, i, h => by unfold idxF at h; omega
  | y :: ys, k, i, h => by
    unfold idxF at h
    split at h
    · rename_i hq
      have : i = 0 := by omega
      subst this
      exact ⟨y, rfl, hq, fun z hz => by simp at hz⟩
    · rename_i hq
      have hi : i ≠ 0 := by
        intro e
        subst e
        rcases Int.lt_or_le (idxF q (k + 1) ys) 0 with h1 | h1
        · omega
        · obtain ⟨_, _, _, h2⟩ := idxF_lt (q := q) (xs := ys) (k := k + 1) rfl h1
          omega
      obtain ⟨i', rfl⟩ : ∃ i', i = i' + 1 := ⟨i - 1, by omega⟩
      obtain ⟨x, h1, h2, h3⟩ := idxF_some (xs := ys) (k := k + 1) (i := i') (by rw [h]; congr 1; omega)
      refine ⟨x, by simpa using h1, h2, fun z hz => ?_⟩
      simp only [List.take_succ_cons, List.mem_cons] at hz
      rcases hz with rfl | hz
      · simpa using hq
      · exact h3 z hz
theorem idxF_bound (q : α → Bool) (xs : List α) : idxF q 0 xs = -1 ∨ (0 ≤ idxF q 0 xs ∧ idxF q 0 xs < xs.length) := by
  rcases Int.lt_or_le (idxF q 0 xs) 0 with h | h
  · left
    have : ∀ (xs : List α) (k : Nat), idxF q k xs < 0 → idxF q k xs = -1 := by
      intro xs
      induction xs with
      | nil => intro k _; rfl
      | cons y ys ih =>
        intro k hk
        unfold idxF at hk ⊢
        split
        · rename_i hq; rw [if_pos hq] at hk; omega
        · rename_i hq; rw [if_neg hq] at hk; exact ih _ hk
    exact this xs 0 h
  · right
    obtain ⟨x, h1, _⟩ := idxF_lt (q := q) (xs := xs) (k := 0) rfl h
    have := (List.getElem?_eq_some_iff.1 h1).1
    omega

def DelInv (q : α → Bool) (xs es : List α) (i j : Nat) : Prop := es.length = xs.length ∧ i < j ∧ j ≤ xs.length ∧ es.take i = (xs.take j).filter (fun y => !q y) ∧ es.drop j = xs.drop j
theorem DelInv.start (h : ¬ idxF q 0 xs = -1) : DelInv q xs xs (idxF q 0 xs).toNat ((idxF q 0 xs).toNat + 1) := by
  rcases idxF_bound q xs with h1 | ⟨h1, h2⟩
  · exact absurd h1 h
  · obtain ⟨x, e1, e2, e3⟩ := idxF_some (q := q) (xs := xs) (k := 0) (i := (idxF q 0 xs).toNat) (by omega)
    refine ⟨rfl, by omega, by omega, ?_, rfl⟩
    rw [List.take_add_one, e1, List.filter_append, List.filter_eq_self.2 (fun y hy => by rw [e3 y hy]; rfl)]
    simp [e2]
theorem DelInv.get (h : DelInv q xs es i j) (hx : es[j]? = some x) : xs[j]? = some x := by
  have h1 : (es.drop j)[0]? = some x := by simpa using hx
  rw [h.2.2.2.2] at h1
  simpa using h1
theorem DelInv.keep (h : DelInv q xs es i j) (hx : es[j]? = some x) (hq : q x = false) : DelInv q xs (es.set i x) (i + 1) (j + 1) := by
  have hx2 := h.get hx
  obtain ⟨h1, h2, h3, h4, h5⟩ := h
  have hj := (List.getElem?_eq_some_iff.1 hx2).1
  refine ⟨by simp [h1], by omega, by omega, ?_, ?_⟩
  · rw [List.take_add_one, List.take_set_of_le (Nat.le_refl _), h4, List.getElem?_set, if_pos rfl, if_pos (by omega), List.take_add_one, hx2, List.filter_append]
    simp [hq]
  · rw [List.drop_set_of_lt (by omega)]
    rw [← List.drop_drop, ← List.drop_drop, h5]
theorem DelInv.skip (h : DelInv q xs es i j) (hx : es[j]? = some x) (hq : q x = true) : DelInv q xs es i (j + 1) := by
  have hx2 := h.get hx
  obtain ⟨h1, h2, h3, h4, h5⟩ := h
  have hj := (List.getElem?_eq_some_iff.1 hx2).1
  refine ⟨h1, by omega, by omega, ?_, ?_⟩
  · rw [h4, List.take_add_one, hx2, List.filter_append]
    simp [hq]
  · rw [← List.drop_drop, ← List.drop_drop, h5]
theorem DelInv.done (h : DelInv q xs es i j) (hj : ¬ (j : Int) < xs.length) : es.take i = xs.filter (fun y => !q y) := by
  rw [h.2.2.2.1, List.take_of_length_le (by omega)]
end

end Go.Ab
namespace Go.Ab
open Go.RowKit
set_option linter.unusedVariables false

section
variable {F : Nat → Prop} {w0 : Base} {gv : List Value} {s : St} {a : Act} {w : World} {hdr : Nat → Hdr}
end

end Go.Ab
namespace Go.Ab
open Go.RowKit
set_option linter.unusedVariables false

end Go.Ab
