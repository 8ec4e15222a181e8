/-
  Plain laws: lists that rise, searched and collected.
  No condition: definitions and lemmas over any program.
-/
import Derived.Test.YtpbabdnbbpgejaaGreatAb23
import Derived.Sort.Walk0
namespace Go.Ab
open Go.Proofs
set_option linter.unusedVariables false

theorem bl_irr (a : List UInt8) : Op.bytesLess a a = false := by
  rw [bytesLess_eq]
  exact decide_eq_false (List.lt_irrefl a)
theorem bl_tr {a b c : List UInt8} (h : Op.bytesLess a b = true) (h2 : Op.bytesLess b c = true) : Op.bytesLess a c = true := by
  rw [bytesLess_eq, decide_eq_true_eq] at *
  exact List.lt_trans h h2
theorem bl_tot {a b : List UInt8} (h : Op.bytesLess a b = false) (h2 : ¬ a = b) : Op.bytesLess b a = true := by
  have := bl_leq a b
  rw [h] at this
  have e : (a == b) = false := beq_eq_false_iff_ne.2 h2
  rw [e] at this
  simpa using this.symm
theorem bl_asym {a b : List UInt8} (h : Op.bytesLess a b = true) : Op.bytesLess b a = false := by
  cases h2 : Op.bytesLess b a with
  | false => rfl
  | true => have := bl_tr h h2; rw [bl_irr] at this; cases this
theorem ble_tr {a b c : List UInt8} (h : Op.bytesLess b a = false) (h2 : Op.bytesLess b c = true) : Op.bytesLess a c = true := by
  by_cases e : a = b
  · rw [e]; exact h2
  · exact bl_tr (bl_tot h (fun e' => e e'.symm)) h2
theorem ble_tr2 {a b c : List UInt8} (h : Op.bytesLess a b = true) (h2 : Op.bytesLess c b = false) : Op.bytesLess a c = true := by
  by_cases e : b = c
  · rw [← e]; exact h
  · exact bl_tr h (bl_tot h2 (fun e' => e e'.symm))

section
variable {α : Type} {c : α → Int} {xs : List α}
/-- The place that a search finds in a list that rises. -/
theorem bs_place (hs : xs.Pairwise fun a b => c b ≤ 0 → c a < 0) : (∀ k x, k < bsPos c xs → xs[k]? = some x → c x < 0) ∧ (∀ k x, bsPos c xs ≤ k → xs[k]? = some x → ¬ c x < 0) := by
  have key : ∃ m, m ≤ xs.length ∧ (∀ k x, k < m → xs[k]? = some x → c x < 0) ∧ (∀ k x, m ≤ k → xs[k]? = some x → ¬ c x < 0) := by
    induction xs with
    | nil => exact ⟨0, Nat.le_refl _, fun k x h => absurd h (Nat.not_lt_zero _), fun k x _ h => by simp at h⟩
    | cons y ys ih =>
      rw [List.pairwise_cons] at hs
      obtain ⟨m, h0, h1, h2⟩ := ih hs.2
      by_cases hy : c y < 0
      · refine ⟨m + 1, by simp; omega, fun k x hk hx => ?_, fun k x hk hx => ?_⟩
        · cases k with
          | zero => simp at hx; subst hx; exact hy
          | succ k => exact h1 k x (by omega) (by simpa using hx)
        · cases k with
          | zero => omega
          | succ k => exact h2 k x (by omega) (by simpa using hx)
      · refine ⟨0, Nat.zero_le _, fun k x hk => absurd hk (Nat.not_lt_zero _), fun k x _ hx => ?_⟩
        cases k with
        | zero => simp at hx; subst hx; exact hy
        | succ k =>
          have hm : x ∈ ys := List.mem_of_getElem? (by simpa using hx)
          intro hc
          exact hy (hs.1 x hm (by omega))
  obtain ⟨m, h0, h1, h2⟩ := key
  rw [bsPos_of m h0 h1 h2]
  exact ⟨h1, h2⟩
theorem bs_at (hs : xs.Pairwise fun a b => c b ≤ 0 → c a < 0) {j : Nat} {x : α} (hx : xs[j]? = some x) (h0 : c x = 0) : j = bsPos c xs := by
  obtain ⟨h1, h2⟩ := bs_place hs
  rcases Nat.lt_trichotomy j (bsPos c xs) with h | h | h
  · have := h1 j x h hx; omega
  · exact h
  · have hlt : bsPos c xs < xs.length := by have := (List.getElem?_eq_some_iff.1 hx).1; omega
    have hy : xs[bsPos c xs]? = some xs[bsPos c xs] := List.getElem?_eq_getElem hlt
    have h3 := h2 _ _ (Nat.le_refl _) hy
    obtain ⟨hj, hjx⟩ := List.getElem?_eq_some_iff.1 hx
    have := List.pairwise_iff_getElem.1 hs _ _ hlt hj h
    rw [hjx] at this
    exact absurd (this (by omega)) h3
theorem bs_hit (hs : xs.Pairwise fun a b => c b ≤ 0 → c a < 0) : bsHit c xs = xs.any fun x => c x == 0 := by
  cases ha : xs.any fun x => c x == 0 with
  | true =>
    obtain ⟨x, hx, h0⟩ := List.any_eq_true.1 ha
    obtain ⟨j, hj, rfl⟩ := List.getElem_of_mem hx
    have hj2 : xs[j]? = some xs[j] := List.getElem?_eq_getElem hj
    have e := bs_at hs hj2 (beq_iff_eq.1 h0)
    unfold bsHit
    rw [← e, hj2]
    exact h0
  | false =>
    unfold bsHit
    split
    · rename_i x hx
      have := List.any_eq_false.1 ha x (List.mem_of_getElem? hx)
      simpa using this
    · rfl
theorem bs_find (hs : xs.Pairwise fun a b => c b ≤ 0 → c a < 0) {p : α → Bool} (hp : ∀ x ∈ xs, p x = (c x == 0)) (h : bsHit c xs = true) : xs.find? p = xs[bsPos c xs]? := by
  cases hf : xs.find? p with
  | none =>
    rw [bs_hit hs] at h
    obtain ⟨x, hx, h0⟩ := List.any_eq_true.1 h
    have := List.find?_eq_none.1 hf x hx
    rw [hp x hx, h0] at this
    exact absurd rfl this
  | some y =>
    have hy := List.mem_of_find?_eq_some hf
    have h0 := List.find?_some hf
    rw [hp y hy] at h0
    obtain ⟨j, hj, rfl⟩ := List.getElem_of_mem hy
    rw [← bs_at hs (List.getElem?_eq_getElem hj) (beq_iff_eq.1 h0), List.getElem?_eq_getElem hj]
theorem bs_isSome (hs : xs.Pairwise fun a b => c b ≤ 0 → c a < 0) {p : α → Bool} (hp : ∀ x ∈ xs, p x = (c x == 0)) : bsHit c xs = (xs.find? p).isSome := by
  rw [bs_hit hs]
  cases hf : xs.find? p with
  | none =>
    simp only [Option.isSome_none]
    rw [List.any_eq_false]
    intro x hx h0
    have := List.find?_eq_none.1 hf x hx
    rw [hp x hx, h0] at this
    exact this rfl
  | some y =>
    simp only [Option.isSome_some]
    rw [List.any_eq_true]
    have hy := List.mem_of_find?_eq_some hf
    have h0 := List.find?_some hf
    rw [hp y hy] at h0
    exact ⟨y, hy, h0⟩
end

/-! Lists that are collected. -/
theorem mem_compactUpTo {d : Array (List UInt8)} {x : List UInt8} : ∀ m, m ≤ d.size → (x ∈ Lib.compactUpTo d m ↔ ∃ j, j < m ∧ d[j]! = x)
  | 0, _ => by simp [Lib.compactUpTo]
  | m + 1, hm => by
    have ih := mem_compactUpTo (d := d) (x := x) m (by omega)
    rw [Lib.compactUpTo_succ, List.mem_append, ih]
    constructor
    · rintro (⟨j, hj, e⟩ | h)
      · exact ⟨j, by omega, e⟩
      · split at h
        · simp at h; exact ⟨m, by omega, h.symm⟩
        · simp at h
    · rintro ⟨j, hj, e⟩
      by_cases hjm : j = m
      · subst hjm
        cases hk : Lib.keeps d j with
        | true => right; simp [e]
        | false =>
          left
          unfold Lib.keeps at hk
          rw [decide_eq_false_iff_not, not_or] at hk
          refine ⟨j - 1, by omega, ?_⟩
          rw [← e]
          exact (Classical.not_not.1 hk.2).symm
      · exact .inl ⟨j, by omega, e⟩
theorem nodup_compactUpTo {d : Array (List UInt8)} (hs : ∀ i j, i ≤ j → j < d.size → Op.bytesLess d[j]! d[i]! = false) : ∀ m, m ≤ d.size → (Lib.compactUpTo d m).Nodup
  | 0, _ => by simp [Lib.compactUpTo]
  | m + 1, hm => by
    have ih := nodup_compactUpTo hs m (by omega)
    rw [Lib.compactUpTo_succ]
    cases hk : Lib.keeps d m with
    | false => simpa using ih
    | true =>
      rw [if_pos rfl]
      refine List.nodup_append.2 ⟨ih, by simp, ?_⟩
      intro a ha b hb
      simp at hb
      subst hb
      rintro rfl
      obtain ⟨j, hj, e⟩ := (mem_compactUpTo m (by omega)).1 ha
      unfold Lib.keeps at hk
      rw [decide_eq_true_eq] at hk
      rcases hk with h | h
      · omega
      · have h1 := hs j (m - 1) (by omega) (by omega)
        have h2 := hs (m - 1) m (by omega) (by omega)
        rw [e] at h1
        apply h
        have q := bl_leq d[m]! d[m - 1]!
        rw [h2, h1] at q
        simpa using q
theorem compS_mem {ss : List (List UInt8)} {x : List UInt8} : x ∈ compS ss ↔ x ∈ ss := by
  unfold compS Lib.compact
  rw [mem_compactUpTo _ (by simp)]
  constructor
  · rintro ⟨j, hj, rfl⟩
    rw [getElem!_pos _ j (by simpa using hj)]
    simp
  · intro h
    obtain ⟨j, hj, rfl⟩ := List.getElem_of_mem h
    refine ⟨j, hj, ?_⟩
    rw [getElem!_pos _ j (by simpa using hj)]
    simp
theorem sortS_mem {ss : List (List UInt8)} {x : List UInt8} : x ∈ sortS ss ↔ x ∈ ss := by
  unfold sortS; exact List.mem_mergeSort
theorem sortS_le (ss : List (List UInt8)) : (sortS ss).Pairwise fun a b => decide (a ≤ b) = true := by
  unfold sortS
  refine List.pairwise_mergeSort (le := fun x y : List UInt8 => decide (x ≤ y)) ?_ ?_ ss
  · intro a b c h1 h2
    simp only [decide_eq_true_eq] at *
    exact List.le_trans h1 h2
  · intro a b
    simp only [Bool.or_eq_true, decide_eq_true_eq]
    exact List.le_total a b
theorem compS_nodup (ss : List (List UInt8)) : (compS (sortS ss)).Nodup := by
  unfold compS Lib.compact
  refine nodup_compactUpTo ?_ _ (by simp)
  intro i j hij hj
  have hj' : j < (sortS ss).length := by simpa using hj
  rw [getElem!_pos _ i (by simp; omega), getElem!_pos _ j (by simpa using hj)]
  simp only [List.getElem_toArray]
  by_cases e : i = j
  · subst e; exact bl_irr _
  · have := List.pairwise_iff_getElem.1 (sortS_le ss) i j (by omega) hj' (by omega)
    rw [decide_eq_true_eq] at this
    rw [bytesLess_eq]
    exact decide_eq_false (List.not_lt.2 this)
end Go.Ab
