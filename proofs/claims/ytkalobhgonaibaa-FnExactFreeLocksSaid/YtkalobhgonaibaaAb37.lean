/-
  Plain laws: lists from which elements are struck, into which elements are put.
  No condition: definitions and lemmas over any program.
-/
import Derived.Test.YtkalobhgonaibaaM5
namespace Go.Ab
set_option linter.unusedVariables false

theorem OutA_cook {P : Program} {sh : Bool} {rs : List ResultVar} {r : AV} {os : List AObj} {s : St} {id m cp ty esz : Nat} {es : List (List AV)} (t : Nat) (ht : s.env t = .prt id 0 m cp) (ho : s.objs id = some ⟨.slc, ty, esz, es⟩) (hm : m ≤ es.length)
    (h : OutA P sh rs r os (cookS s t id m ⟨.slc, ty, esz, es⟩)) : OutA P sh rs r os s := OutA_le (St.le_cook ht ho hm) h

theorem splice_take_at {α : Type} {A ys : List α} {k : Nat} (h : k ≤ A.length) : (splice A k ys).take k = A.take k := by
  unfold splice
  rw [List.append_assoc, List.take_append, List.length_take, Nat.min_eq_left h, Nat.sub_self, List.take_zero, List.append_nil, List.take_take, Nat.min_self]

section
variable {α : Type} {q : α → Bool} {xs es : List α} {i j : Nat} {x : α}

theorem idxF_none : ∀ {xs : List α} {k : Nat}, idxF q k xs = -1 → ∀ x ∈ xs, q x = false
  | [], _, _, x, hx => by cases hx
  | y :: ys, k, h, x, hx => by
    unfold idxF at h
    split at h
    · omega
    · rename_i hq
      rcases List.mem_cons.1 hx with rfl | hx
      · simpa using hq
      · exact idxF_none h x hx
theorem idxF_some : ∀ {xs : List α} {k i : Nat}, idxF q k xs = ((k + i : Nat) : Int) → ∃ x, xs[i]? = some x ∧ q x = true ∧ ∀ y ∈ xs.take i, q y = false
  | [], k, i, h => by unfold idxF at h; omega
  | y :: ys, k, i, h => by
    unfold idxF at h
    split at h
    · rename_i hq
      have : i = 0 := by omega
      subst this
      exact ⟨y, rfl, hq, fun z hz => by simp at hz⟩
    · rename_i hq
      have hi : i ≠ 0 := by
        intro e
        subst e
        rcases Int.lt_or_le (idxF q (k + 1) ys) 0 with h1 | h1
        · omega
        · obtain ⟨_, _, _, h2⟩ := idxF_lt (q := q) (xs := ys) (k := k + 1) rfl h1
          omega
      obtain ⟨i', rfl⟩ : ∃ i', i = i' + 1 := ⟨i - 1, by omega⟩
      obtain ⟨x, h1, h2, h3⟩ := idxF_some (xs := ys) (k := k + 1) (i := i') (by rw [h]; congr 1; omega)
      refine ⟨x, by simpa using h1, h2, fun z hz => ?_⟩
      simp only [List.take_succ_cons, List.mem_cons] at hz
      rcases hz with rfl | hz
      · simpa using hq
      · exact h3 z hz
theorem idxF_bound (q : α → Bool) (xs : List α) : idxF q 0 xs = -1 ∨ (0 ≤ idxF q 0 xs ∧ idxF q 0 xs < xs.length) := by
  rcases Int.lt_or_le (idxF q 0 xs) 0 with h | h
  · left
    have : ∀ (xs : List α) (k : Nat), idxF q k xs < 0 → idxF q k xs = -1 := by
      intro xs
      induction xs with
      | nil => intro k _; rfl
      | cons y ys ih =>
        intro k hk
        unfold idxF at hk ⊢
        split
        · rename_i hq; rw [if_pos hq] at hk; omega
        · rename_i hq; rw [if_neg hq] at hk; exact ih _ hk
    exact this xs 0 h
  · right
    obtain ⟨x, h1, _⟩ := idxF_lt (q := q) (xs := xs) (k := 0) rfl h
    have := (List.getElem?_eq_some_iff.1 h1).1
    omega

/-- Elements are struck from a list: the first i that were kept of the first j. -/
def DelInv (q : α → Bool) (xs es : List α) (i j : Nat) : Prop := es.length = xs.length ∧ i < j ∧ j ≤ xs.length ∧ es.take i = (xs.take j).filter (fun y => !q y) ∧ es.drop j = xs.drop j
theorem DelInv.arith (h : DelInv q xs es i j) : es.length = xs.length ∧ i < j ∧ j ≤ xs.length := ⟨h.1, h.2.1, h.2.2.1⟩
theorem DelInv.start (h : ¬ idxF q 0 xs = -1) : DelInv q xs xs (idxF q 0 xs).toNat ((idxF q 0 xs).toNat + 1) := by
  rcases idxF_bound q xs with h1 | ⟨h1, h2⟩
  · exact absurd h1 h
  · obtain ⟨x, e1, e2, e3⟩ := idxF_some (q := q) (xs := xs) (k := 0) (i := (idxF q 0 xs).toNat) (by omega)
    refine ⟨rfl, by omega, by omega, ?_, rfl⟩
    rw [List.take_add_one, e1, List.filter_append, List.filter_eq_self.2 (fun y hy => by rw [e3 y hy]; rfl)]
    simp [e2]
theorem DelInv.get (h : DelInv q xs es i j) (hx : es[j]? = some x) : xs[j]? = some x := by
  have h1 : (es.drop j)[0]? = some x := by simpa using hx
  rw [h.2.2.2.2] at h1
  simpa using h1
theorem DelInv.keep (h : DelInv q xs es i j) (hx : es[j]? = some x) (hq : q x = false) : DelInv q xs (es.set i x) (i + 1) (j + 1) := by
  have hx2 := h.get hx
  obtain ⟨h1, h2, h3, h4, h5⟩ := h
  have hj := (List.getElem?_eq_some_iff.1 hx2).1
  refine ⟨by simp [h1], by omega, by omega, ?_, ?_⟩
  · rw [List.take_add_one, List.take_set_of_le (Nat.le_refl _), h4, List.getElem?_set, if_pos rfl, if_pos (by omega), List.take_add_one, hx2, List.filter_append]
    simp [hq]
  · rw [List.drop_set_of_lt (by omega)]
    rw [← List.drop_drop, ← List.drop_drop, h5]
theorem DelInv.skip (h : DelInv q xs es i j) (hx : es[j]? = some x) (hq : q x = true) : DelInv q xs es i (j + 1) := by
  have hx2 := h.get hx
  obtain ⟨h1, h2, h3, h4, h5⟩ := h
  have hj := (List.getElem?_eq_some_iff.1 hx2).1
  refine ⟨h1, by omega, by omega, ?_, ?_⟩
  · rw [h4, List.take_add_one, hx2, List.filter_append]
    simp [hq]
  · rw [← List.drop_drop, ← List.drop_drop, h5]
theorem DelInv.done (h : DelInv q xs es i j) (hj : ¬ (j : Int) < xs.length) : es.take i = xs.filter (fun y => !q y) := by
  rw [h.2.2.2.1, List.take_of_length_le (by omega)]
theorem filter_none (h : idxF q 0 xs = -1) : xs = xs.filter (fun y => !q y) := (List.filter_eq_self.2 (fun y hy => by rw [idxF_none h y hy]; rfl)).symm
end

/-- What is left of an object from which elements were struck. -/
theorem del_end {α : Type} {C : α → List AV} {q : α → Bool} {xs es : List α} {i j m : Nat} {ys : List (List AV)} {k : Nat} (h : DelInv q xs es i j) (hj : ¬ (j : Int) < xs.length) (hm : m = i) (hk : k = i) : (xs.filter (fun y => !q y)).map C = (splice (es.map C) k ys).take m := by
  subst hm hk
  rw [splice_take_at (by rw [List.length_map]; have := h.1; have := h.2.1; have := h.2.2.1; omega), ← h.done hj, List.map_take]
theorem splice_lenU {α : Type} {A ys : List α} {k : Nat} : (splice A k ys).length = min k A.length + ys.length + (A.length - (k + ys.length)) := by
  unfold splice
  simp only [List.length_append, List.length_take, List.length_drop]
theorem ix_ownX {α : Type} {f : α → List AV} {xs : List α} {n : Nat} {Q : List AV → Prop} (h : n < xs.length) (hQ : ∀ x, xs[n]? = some x → Q (f x)) : ∃ y, (xs.map f)[n]? = some y ∧ Q y :=
  ⟨f xs[n], by simp [h], hQ _ (by simp [h])⟩
end Go.Ab
