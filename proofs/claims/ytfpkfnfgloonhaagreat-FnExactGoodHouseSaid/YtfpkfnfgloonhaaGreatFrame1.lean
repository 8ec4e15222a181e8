/-
  Frames of bytes: how they are read.
  No condition.
-/
import Derived.Test.YtfpkfnfgloonhaaGreatRead9
namespace Go.Proofs.YtfpkfnfgloonhaaGreat
open Go.Ab
set_option linter.unusedSimpArgs false
set_option maxRecDepth 20000
set_option maxHeartbeats 4000000
set_option linter.unusedVariables false

theorem finS_eq {b : List UInt8} {s : Nat} {n : Int} {a : Nat} (h : (finS b s n a).2.2 = false) : numB (finS b s n a).1 = (b.take (finS b s n a).2.1).drop s := by
  unfold finS at h ⊢
  by_cases hc : n > 1000000000 ∨ numB n ≠ (b.take a).drop s
  · rw [if_pos hc] at h; cases h
  · rw [if_neg hc]
    exact Decidable.byContradiction fun e => hc (.inr e)
theorem numM_eq {b : List UInt8} {s : Nat} : ∀ (f : Nat) (n q : Int) (a : Nat), (numM b s f n q a).2.2 = false → numB (numM b s f n q a).1 = (b.take (numM b s f n q a).2.1).drop s
  | 0, n, q, a, h => by
    unfold numM at h ⊢
    exact finS_eq h
  | f + 1, n, q, a, h => by
    unfold numM at h ⊢
    cases hx : b[a]? with
    | none => rw [hx] at h; cases h
    | some x =>
      rw [hx] at h
      simp only at h ⊢
      by_cases hl : x.toNat < 128
      · rw [if_pos hl] at h ⊢
        exact finS_eq h
      · rw [if_neg hl] at h ⊢
        exact numM_eq f _ _ _ h
theorem numFS_eq {b : List UInt8} {a : Nat} (h : (numFS b a false).2.2 = false) : numB (numFS b a false).1 = (b.take (numFS b a false).2.1).drop a := numM_eq 5 0 1 a h
theorem numFS_end {b : List UInt8} {a : Nat} (h : b.length ≤ a) : (numFS b a false).2.2 = true := by
  show (numM b a 5 0 1 a).2.2 = true
  unfold numM
  rw [List.getElem?_eq_none_iff.2 h]
def frN (b : List UInt8) (a : Nat) : Int := (numFS b a false).1
def frM (b : List UInt8) (a : Nat) : Nat := (numFS b a false).2.1
def frS (b : List UInt8) (a : Nat) : List UInt8 := (b.take (frM b a + (frN b a).toNat)).drop (frM b a)
def frE (b : List UInt8) (a : Nat) : Nat := frM b a + (frN b a).toNat + 3
def frOk (b : List UInt8) (a : Nat) : Bool := !(numFS b a false).2.2 && decide (frN b a ≤ 700) && decide (frN b a + 3 ≤ (b.length : Int) - frM b a) && decide (sealB (frS b a) = (b.take (frE b a)).drop (frM b a))
def frR (b : List UInt8) (a : Nat) : List UInt8 := match frOk b a with | true => frS b a | false => []
theorem frOk_lt {b : List UInt8} {a : Nat} (h : frOk b a = true) : a < frM b a ∧ frE b a ≤ b.length ∧ 0 ≤ frN b a ∧ frN b a ≤ 700 := by
  unfold frOk at h
  simp only [Bool.and_eq_true, Bool.not_eq_true', decide_eq_true_eq] at h
  obtain ⟨⟨⟨h1, h2⟩, h3⟩, h4⟩ := h
  have ha : a ≤ b.length := by
    rcases Nat.lt_or_ge b.length a with h | h
    · have := numFS_end (b := b) (a := a) (by omega)
      rw [this] at h1; cases h1
    · exact h
  have ok := numFS_ok (f := false) ha
  refine ⟨ok.go h1, ?_, ok.nn, h2⟩
  have := ok.nn
  unfold frE
  unfold frN at h3 ⊢
  unfold frM at h3 ⊢
  omega
theorem frE_lt {b : List UInt8} {a : Nat} (h : frOk b a = true) : a < frE b a ∧ frE b a ≤ b.length := by
  have := frOk_lt h
  unfold frE at this ⊢
  omega
theorem frS_len {b : List UInt8} {a : Nat} (h : frN b a + 3 ≤ (b.length : Int) - frM b a) : (frS b a).length = (frN b a).toNat := by
  unfold frS
  rw [List.length_drop, List.length_take]
  omega
def frs (b : List UInt8) : Nat → Nat → List (List UInt8) × Nat
  | 0, a => ([], a)
  | k + 1, a => match frOk b a with | false => ([], a) | true => (frS b a :: (frs b k (frE b a)).1, (frs b k (frE b a)).2)
def frames (b : List UInt8) (a : Nat) : List (List UInt8) × Nat := frs b (b.length + 1 - a) a
theorem frs_more {b : List UInt8} : ∀ (k a : Nat), b.length + 1 - a ≤ k → frs b k a = frs b (b.length + 1 - a) a := by
  intro k
  induction k using Nat.strongRecOn with
  | _ k ih =>
    intro a h
    cases k with
    | zero => rw [show b.length + 1 - a = 0 by omega]
    | succ k =>
      cases hk : b.length + 1 - a with
      | zero =>
        unfold frs
        cases hf : frOk b a with
        | false => rfl
        | true => have := frE_lt hf; omega
      | succ j =>
        unfold frs
        cases hf : frOk b a with
        | false => rfl
        | true =>
          have he := frE_lt hf
          simp only
          rw [ih k (by omega) (frE b a) (by omega), ih j (by omega) (frE b a) (by omega)]
theorem frames_no {b : List UInt8} {a : Nat} (h : frOk b a = false) : frames b a = ([], a) := by
  unfold frames
  cases b.length + 1 - a with
  | zero => rfl
  | succ k => unfold frs; rw [h]
theorem frames_yes {b : List UInt8} {a : Nat} (h : frOk b a = true) : frames b a = (frS b a :: (frames b (frE b a)).1, (frames b (frE b a)).2) := by
  have he := frE_lt h
  unfold frames
  obtain ⟨k, hk⟩ : ∃ k, b.length + 1 - a = k + 1 := ⟨b.length - a, by omega⟩
  rw [hk]
  conv => lhs; unfold frs
  rw [h]
  simp only
  rw [frs_more k (frE b a) (by omega)]
theorem frames_le {b : List UInt8} : ∀ (k a : Nat), b.length + 1 - a ≤ k → a ≤ b.length → (frames b a).2 ≤ b.length ∧ (frames b a).1.length ≤ b.length - a ∧ ∀ s ∈ (frames b a).1, s.length ≤ 700 := by
  intro k
  induction k with
  | zero => intro a h ha; omega
  | succ k ih =>
    intro a h ha
    cases hf : frOk b a with
    | false => rw [frames_no hf]; exact ⟨ha, Nat.zero_le _, fun s hs => by cases hs⟩
    | true =>
      have he := frE_lt hf
      obtain ⟨h1, h2, h3⟩ := ih (frE b a) (by omega) he.2
      rw [frames_yes hf]
      refine ⟨h1, by simp only [List.length_cons]; omega, fun s hs => ?_⟩
      rcases List.mem_cons.1 hs with rfl | hs
      · have hq := frOk_lt hf
        have : (frS b a).length = (frN b a).toNat := frS_len (by unfold frE at hq; omega)
        omega
      · exact h3 s hs
theorem frames_ok {b : List UInt8} : (frames b 0).2 ≤ b.length ∧ (frames b 0).1.length ≤ b.length ∧ ∀ s ∈ (frames b 0).1, s.length ≤ 700 := by
  have := frames_le (b := b) (b.length + 1) 0 (by omega) (Nat.zero_le _)
  exact ⟨this.1, by omega, this.2.2⟩
/-! By impl's reader. -/
def fX (b : List UInt8) (a : Nat) := numFI b a false
def fY (b : List UInt8) (a : Nat) := takeF b (fX b a).2.1 (fX b a).2.2 (fX b a).1
def fZ (b : List UInt8) (a : Nat) := takeF b (fY b a).2.1 (fY b a).2.2 3
theorem cut3 {b : List UInt8} {m n k : Nat} (h : n ≤ b.length) (hm : m ≤ n) (hk : n ≤ k) : (b.take k).drop m = (b.take n).drop m ++ (b.take k).drop n := by
  have e : b.take k = b.take n ++ (b.take k).drop n := by
    have := (List.take_append_drop n (b.take k)).symm
    rw [List.take_take, Nat.min_eq_left hk] at this
    exact this
  conv => lhs; rw [e]
  rw [List.drop_append_of_le_length (by rw [List.length_take]; omega)]
theorem fr_impl {b : List UInt8} {a : Nat} (ha : a ≤ b.length) : (decide ((fX b a).1 ≤ 700) && !(fZ b a).2.2 && decide (sealB (fY b a).1 = (fY b a).1 ++ (fZ b a).1)) = frOk b a ∧ (frOk b a = true → (fY b a).1 = frS b a ∧ (fZ b a).2.1 = frE b a) := by
  have hrel : RelG (fX b a) (numFS b a false) := numF_rel
  have ok := numFS_ok (f := false) ha
  cases hb : (numFS b a false).2.2 with
  | true =>
    have hx : (fX b a).2.2 = true := by rw [hrel.1, hb]
    have hy : (fY b a).2.2 = true := by unfold fY; rw [takeF_no (.inl hx)]
    have hz : (fZ b a).2.2 = true := by unfold fZ; rw [takeF_no (.inl hy)]
    have hf : frOk b a = false := by unfold frOk; rw [hb]; rfl
    rw [hz, hf]
    simp
  | false =>
    have hx : fX b a = numFS b a false := hrel.2 hb
    have hxn : (fX b a).1 = frN b a := by rw [hx]; rfl
    have hxm : (fX b a).2.1 = frM b a := by rw [hx]; rfl
    have hxb : (fX b a).2.2 = false := by rw [hx, hb]
    have hnn : 0 ≤ frN b a := ok.nn
    have hmm : frM b a ≤ b.length := ok.hi
    by_cases h1 : frN b a > (b.length : Int) - frM b a
    · have hy : fY b a = ([], frM b a, true) := by unfold fY; rw [hxn, hxm]; exact takeF_no (.inr h1)
      have hz : (fZ b a).2.2 = true := by unfold fZ; rw [takeF_no (.inl (by rw [hy]))]
      have hf : frOk b a = false := by unfold frOk; rw [decide_eq_false (p := frN b a + 3 ≤ (b.length : Int) - frM b a) (by omega)]; simp
      rw [hz, hf]
      simp
    · have hy : fY b a = (frS b a, frM b a + (frN b a).toNat, false) := by unfold fY; rw [hxn, hxm]; exact takeF_yes hxb h1
      by_cases h2 : (3 : Int) > (b.length : Int) - ((frM b a + (frN b a).toNat : Nat) : Int)
      · have hz : (fZ b a).2.2 = true := by unfold fZ; rw [hy, takeF_no (.inr h2)]
        have hf : frOk b a = false := by unfold frOk; rw [decide_eq_false (p := frN b a + 3 ≤ (b.length : Int) - frM b a) (by omega)]; simp
        rw [hz, hf]
        simp
      · have hz : fZ b a = ((b.take (frE b a)).drop (frM b a + (frN b a).toNat), frE b a, false) := by unfold fZ; rw [hy, takeF_yes rfl h2]; rfl
        have hcut : frS b a ++ (b.take (frE b a)).drop (frM b a + (frN b a).toNat) = (b.take (frE b a)).drop (frM b a) := (cut3 (by omega) (by omega) (by unfold frE; omega)).symm
        rw [hy, hz, hxn]
        simp only
        rw [hcut]
        refine ⟨?_, fun _ => ⟨trivial, trivial⟩⟩
        unfold frOk
        rw [hb, decide_eq_true (p := frN b a + 3 ≤ (b.length : Int) - frM b a) (by omega)]
        simp
theorem fX_ok {b : List UInt8} {a : Nat} (ha : a ≤ b.length) : OkN b a (fX b a) := numFI_ok ha
theorem fY_ok {b : List UInt8} {a : Nat} (ha : a ≤ b.length) : OkA b (fX b a).2.1 (fY b a) := takeF_ok (fX_ok ha).hi (fX_ok ha).nn
theorem fr_spec {b : List UInt8} {a : Nat} (ha : a ≤ b.length) (hb : (numFS b a false).2.2 = false) (h2 : frN b a + 3 ≤ (b.length : Int) - frM b a) : (numB ((frS b a).length : Nat) ++ sealB (frS b a) = (b.take (frE b a)).drop a) ↔ sealB (frS b a) = (b.take (frE b a)).drop (frM b a) := by
  have ok := numFS_ok (f := false) ha
  have hnn : 0 ≤ frN b a := ok.nn
  have hgo : a < frM b a := ok.go hb
  rw [frS_len h2, Int.toNat_of_nonneg hnn, cut3 (b := b) (m := a) (n := frM b a) (k := frE b a) ok.hi (Nat.le_of_lt hgo) (by unfold frE; omega)]
  have e : numB (frN b a) = (b.take (frM b a)).drop a := numFS_eq hb
  rw [e]
  exact ⟨fun h => List.append_cancel_left h, fun h => by rw [h]⟩
end Go.Proofs.YtfpkfnfgloonhaaGreat
