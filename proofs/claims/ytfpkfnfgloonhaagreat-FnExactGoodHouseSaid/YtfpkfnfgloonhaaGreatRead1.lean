/-
  What the functions that read numbers, texts and lists of them compute, and that the two ways of reading are one.
  No condition.
-/
import Derived.Test.YtfpkfnfgloonhaaGreatBytes
namespace Go.Proofs.YtfpkfnfgloonhaaGreat
open Go.Ab
set_option linter.unusedSimpArgs false
set_option maxRecDepth 20000
set_option maxHeartbeats 4000000
set_option linter.unusedVariables false

theorem numG_fuel : ∀ (f g : Nat) (n : Int), n.toNat ≤ f → n.toNat ≤ g → numG f n = numG g n
  | 0, 0, _, _, _ => rfl
  | 0, g + 1, n, hf, _ => by
    unfold numG
    rw [if_neg (by omega)]
  | f + 1, 0, n, _, hg => by
    unfold numG
    rw [if_neg (by omega)]
  | f + 1, g + 1, n, hf, hg => by
    unfold numG
    by_cases h : n ≥ 128
    · rw [if_pos h, if_pos h]
      have := tdiv_128 h
      rw [numG_fuel f g (n.tdiv 128) (by omega) (by omega)]
    · rw [if_neg h, if_neg h]
theorem numB_ge {n : Int} (h : n ≥ 128) : numB n = byt (n % 128 + 128) :: numB (n.tdiv 128) := by
  have ht := tdiv_128 h
  obtain ⟨f, hf⟩ : ∃ f, n.toNat = f + 1 := ⟨n.toNat - 1, by omega⟩
  unfold numB
  rw [hf]
  conv => lhs; unfold numG
  rw [if_pos h, numG_fuel f (n.tdiv 128).toNat (n.tdiv 128) (by omega) (by omega)]
theorem numB_lt {n : Int} (h : ¬ n ≥ 128) : numB n = [byt n] := by
  unfold numB
  cases hf : n.toNat with
  | zero => rfl
  | succ f => unfold numG; rw [if_neg h]
/-- The last byte of a number is small. -/
theorem numB_last : ∀ (f : Nat) (n : Int), n.toNat ≤ f → 0 ≤ n → ∃ l x, numB n = l ++ [x] ∧ x.toNat < 128
  | f, n, hf, h0 => by
    by_cases h : n ≥ 128
    · have ht := tdiv_128 h
      cases f with
      | zero => omega
      | succ f =>
        obtain ⟨l, x, e, hx⟩ := numB_last f (n.tdiv 128) (by omega) ht.1
        exact ⟨byt (n % 128 + 128) :: l, x, by rw [numB_ge h, e]; rfl, hx⟩
    · refine ⟨[], byt n, by rw [numB_lt h]; rfl, ?_⟩
      have := byt_toNat (n := n)
      omega

/-! Numbers. -/
def finI (b : List UInt8) (s : Nat) (n : Int) (a : Nat) : Int × Nat × Bool := if numB n = (b.take a).drop s then (n, a, false) else (0, a, true)
def numL (b : List UInt8) (s : Nat) : Nat → Int → Int → Nat → Int × Nat × Bool
  | 0, _, _, a => (0, a, true)
  | f + 1, n, q, a =>
    match b[a]? with
    | none => (0, a, true)
    | some x =>
      if n + ((x.toNat % 128 : Nat) : Int) * q > 1000000000 ∨ a + 1 - s > 5 then (0, a + 1, true)
      else if x.toNat < 128 then finI b s (n + ((x.toNat % 128 : Nat) : Int) * q) (a + 1)
      else numL b s f (n + ((x.toNat % 128 : Nat) : Int) * q) (q * 128) (a + 1)
def finS (b : List UInt8) (s : Nat) (n : Int) (a : Nat) : Int × Nat × Bool := if n > 1000000000 ∨ numB n ≠ (b.take a).drop s then (0, a, true) else (n, a, false)
def numM (b : List UInt8) (s : Nat) : Nat → Int → Int → Nat → Int × Nat × Bool
  | 0, n, _, a => finS b s n a
  | f + 1, n, q, a =>
    match b[a]? with
    | none => (0, a, true)
    | some x =>
      if x.toNat < 128 then finS b s (n + ((x.toNat % 128 : Nat) : Int) * q) (a + 1)
      else numM b s f (n + ((x.toNat % 128 : Nat) : Int) * q) (q * 128) (a + 1)
/-- Two readings: both fail, or they give the same. -/
def RelG {α : Type} (r t : α × Nat × Bool) : Prop := r.2.2 = t.2.2 ∧ (t.2.2 = false → r = t)
theorem RelG.refl {α : Type} (r : α × Nat × Bool) : RelG r r := ⟨rfl, fun _ => rfl⟩
theorem RelG.bad {α : Type} {r t : α × Nat × Bool} (h : r.2.2 = true) (h' : t.2.2 = true) : RelG r t := ⟨by rw [h, h'], fun e => by rw [h'] at e; cases e⟩
theorem numM_big {b : List UInt8} {s : Nat} : ∀ (f : Nat) (n q : Int) (a : Nat), n > 1000000000 → 0 ≤ q → (numM b s f n q a).2.2 = true
  | 0, n, q, a, h, _ => by unfold numM finS; rw [if_pos (.inl h)]
  | f + 1, n, q, a, h, hq => by
    unfold numM
    cases hx : b[a]? with
    | none => rfl
    | some x =>
      simp only
      have h1 : 0 ≤ ((x.toNat % 128 : Nat) : Int) * q := Int.mul_nonneg (by omega) hq
      by_cases hl : x.toNat < 128
      · rw [if_pos hl]
        unfold finS
        rw [if_pos (.inl (by omega))]
      · rw [if_neg hl]
        exact numM_big f _ _ _ (by omega) (by omega)
theorem num_rel {b : List UInt8} {s : Nat} : ∀ (f : Nat) (n q : Int) (a : Nat), f ≤ 5 → a = s + (5 - f) → 0 ≤ n → n ≤ 1000000000 → 0 ≤ q → (a = s ∨ ∃ x, b[a - 1]? = some x ∧ 128 ≤ x.toNat) → RelG (numL b s (f + 1) n q a) (numM b s f n q a)
  | 0, n, q, a, _, ha, h0, h1, hq, hl => by
    have hS : (numM b s 0 n q a).2.2 = true := by
      unfold numM finS
      rw [if_pos]
      right
      intro e
      obtain ⟨x, hx, hx2⟩ := hl.resolve_left (by omega)
      obtain ⟨l, y, e2, hy⟩ := numB_last n.toNat n (Nat.le_refl _) h0
      have hlt := (List.getElem?_eq_some_iff.1 hx).1
      have e3 : (b.take a).drop s = ((b.take (a - 1)).drop s) ++ [x] := by
        have e4 : b.take a = b.take (a - 1) ++ [x] := by
          rw [show a = (a - 1) + 1 by omega, List.take_add_one, hx]
          simp
        rw [e4, List.drop_append_of_le_length (by rw [List.length_take]; omega)]
      rw [e3, e2] at e
      have := List.append_inj_right' e rfl
      cases this
      omega
    have hL : (numL b s (0 + 1) n q a).2.2 = true := by
      unfold numL
      cases hx : b[a]? with
      | none => rfl
      | some x =>
        simp only
        rw [if_pos (.inr (by omega))]
    exact .bad hL hS
  | f + 1, n, q, a, hf, ha, h0, h1, hq, hl => by
    unfold numL numM
    cases hx : b[a]? with
    | none => exact .refl _
    | some x =>
      simp only
      have h2 : 0 ≤ ((x.toNat % 128 : Nat) : Int) * q := Int.mul_nonneg (by omega) hq
      by_cases hb : n + ((x.toNat % 128 : Nat) : Int) * q > 1000000000
      · rw [if_pos (.inl hb)]
        refine .bad rfl ?_
        by_cases hl2 : x.toNat < 128
        · rw [if_pos hl2]; unfold finS; rw [if_pos (.inl hb)]
        · rw [if_neg hl2]; exact numM_big f _ _ _ hb (by omega)
      · rw [if_neg (fun h => h.elim hb (fun h => by omega))]
        by_cases hl2 : x.toNat < 128
        · rw [if_pos hl2, if_pos hl2]
          unfold finI finS
          by_cases he : numB (n + ((x.toNat % 128 : Nat) : Int) * q) = (b.take (a + 1)).drop s
          · rw [if_pos he, if_neg (fun h => h.elim hb (fun h => h he))]; exact .refl _
          · rw [if_neg he, if_pos (.inr he)]; exact .refl _
        · rw [if_neg hl2, if_neg hl2]
          clear hl
          exact num_rel f _ _ _ (by omega) (by omega) (by omega) (by omega) (by omega) (.inr ⟨x, by rw [Nat.add_sub_cancel]; exact hx, by omega⟩)
def numFI (b : List UInt8) (a : Nat) (f : Bool) : Int × Nat × Bool := match f with | true => (0, a, true) | false => numL b a 6 0 1 a
def numFS (b : List UInt8) (a : Nat) (f : Bool) : Int × Nat × Bool := match f with | true => (0, a, true) | false => numM b a 5 0 1 a
theorem numF_rel {b : List UInt8} {a : Nat} {f : Bool} : RelG (numFI b a f) (numFS b a f) := by
  cases f with
  | true => exact .refl _
  | false => exact num_rel 5 0 1 a (Nat.le_refl _) (by omega) (by omega) (by omega) (by omega) (.inl rfl)
/-- What holds of a reading. -/
structure OkN (b : List UInt8) (a : Nat) (r : Int × Nat × Bool) : Prop where
  lo : a ≤ r.2.1
  hi : r.2.1 ≤ b.length
  nn : 0 ≤ r.1
  le : r.1 ≤ 1000000000
  go : r.2.2 = false → a < r.2.1
  bad : r.2.2 = true → r.1 = 0
theorem numL_ok {b : List UInt8} {s : Nat} : ∀ (f : Nat) (n q : Int) (a : Nat), 0 ≤ n → 0 ≤ q → a ≤ b.length → OkN b a (numL b s f n q a)
  | 0, n, q, a, _, _, ha => ⟨Nat.le_refl _, ha, Int.le_refl _, by show (0 : Int) ≤ _; omega, fun e => (by cases e), fun _ => rfl⟩
  | f + 1, n, q, a, h0, hq, ha => by
    unfold numL
    cases hx : b[a]? with
    | none => exact ⟨Nat.le_refl _, ha, Int.le_refl _, by show (0 : Int) ≤ _; omega, fun e => (by cases e), fun _ => rfl⟩
    | some x =>
      simp only
      have hlt := (List.getElem?_eq_some_iff.1 hx).1
      have h2 : 0 ≤ ((x.toNat % 128 : Nat) : Int) * q := Int.mul_nonneg (by omega) hq
      by_cases hb : n + ((x.toNat % 128 : Nat) : Int) * q > 1000000000 ∨ a + 1 - s > 5
      · rw [if_pos hb]
        exact ⟨Nat.le_succ _, hlt, Int.le_refl _, by show (0 : Int) ≤ _; omega, fun e => (by cases e), fun _ => rfl⟩
      · rw [if_neg hb]
        have hb1 : ¬ n + ((x.toNat % 128 : Nat) : Int) * q > 1000000000 := fun h => hb (.inl h)
        by_cases hl : x.toNat < 128
        · rw [if_pos hl]
          unfold finI
          by_cases he : numB (n + ((x.toNat % 128 : Nat) : Int) * q) = (b.take (a + 1)).drop s
          · rw [if_pos he]
            exact ⟨Nat.le_succ _, hlt, by show 0 ≤ n + _; omega, by show n + _ ≤ _; omega, fun _ => Nat.lt_succ_self _, fun e => by cases e⟩
          · rw [if_neg he]
            exact ⟨Nat.le_succ _, hlt, Int.le_refl _, by show (0 : Int) ≤ _; omega, fun e => (by cases e), fun _ => rfl⟩
        · rw [if_neg hl]
          have := numL_ok (b := b) (s := s) f (n + ((x.toNat % 128 : Nat) : Int) * q) (q * 128) (a + 1) (by omega) (by omega) hlt
          exact ⟨Nat.le_trans (Nat.le_succ _) this.lo, this.hi, this.nn, this.le, fun e => Nat.lt_of_lt_of_le (Nat.lt_succ_self _) this.lo, this.bad⟩
structure OkM (b : List UInt8) (a : Nat) (r : Int × Nat × Bool) : Prop where
  lo : a ≤ r.2.1
  hi : r.2.1 ≤ b.length
  nn : 0 ≤ r.1
  le : r.1 ≤ 1000000000
  bad : r.2.2 = true → r.1 = 0
theorem OkM.fail {b : List UInt8} {a c : Nat} (h : a ≤ c) (h2 : c ≤ b.length) : OkM b a (0, c, true) := ⟨h, h2, Int.le_refl _, by show (0 : Int) ≤ _; omega, fun _ => rfl⟩
theorem finS_ok {b : List UInt8} {s a : Nat} {n : Int} (h0 : 0 ≤ n) (ha : a ≤ b.length) : OkM b a (finS b s n a) := by
  unfold finS
  by_cases h : n > 1000000000 ∨ numB n ≠ (b.take a).drop s
  · rw [if_pos h]; exact .fail (Nat.le_refl _) ha
  · rw [if_neg h]; exact ⟨Nat.le_refl _, ha, h0, Int.not_lt.1 fun e => h (.inl e), fun e => by cases e⟩
theorem OkM.up {b : List UInt8} {a c : Nat} {r : Int × Nat × Bool} (h : OkM b c r) (hc : a ≤ c) : OkM b a r := ⟨Nat.le_trans hc h.lo, h.hi, h.nn, h.le, h.bad⟩
theorem numM_ok {b : List UInt8} {s : Nat} : ∀ (f : Nat) (n q : Int) (a : Nat), 0 ≤ n → 0 ≤ q → a ≤ b.length → OkM b a (numM b s f n q a)
  | 0, n, q, a, h0, _, ha => finS_ok h0 ha
  | f + 1, n, q, a, h0, hq, ha => by
    unfold numM
    cases hx : b[a]? with
    | none => exact .fail (Nat.le_refl _) ha
    | some x =>
      simp only
      have hlt := (List.getElem?_eq_some_iff.1 hx).1
      have h2 : 0 ≤ ((x.toNat % 128 : Nat) : Int) * q := Int.mul_nonneg (by omega) hq
      by_cases hl : x.toNat < 128
      · rw [if_pos hl]; exact (finS_ok (by omega) hlt).up (Nat.le_succ _)
      · rw [if_neg hl]; exact (numM_ok f _ _ _ (by omega) (by omega) hlt).up (Nat.le_succ _)
theorem numFI_ok {b : List UInt8} {a : Nat} {f : Bool} (ha : a ≤ b.length) : OkN b a (numFI b a f) := by
  cases f with
  | true => exact ⟨Nat.le_refl _, ha, Int.le_refl _, by show (0 : Int) ≤ _; omega, fun e => (by cases e), fun _ => rfl⟩
  | false => exact numL_ok 6 0 1 a (by omega) (by omega) ha
theorem numFS_ok {b : List UInt8} {a : Nat} {f : Bool} (ha : a ≤ b.length) : OkN b a (numFS b a f) := by
  cases f with
  | true => exact ⟨Nat.le_refl _, ha, Int.le_refl _, by show (0 : Int) ≤ _; omega, fun e => (by cases e), fun _ => rfl⟩
  | false =>
    have h := numM_ok (b := b) (s := a) 5 0 1 a (by omega) (by omega) ha
    refine ⟨h.lo, h.hi, h.nn, h.le, fun e => ?_, h.bad⟩
    have e : (numM b a 5 0 1 a).2.2 = false := e
    show a < (numM b a 5 0 1 a).2.1
    unfold numM at e ⊢
    cases hx : b[a]? with
    | none => rw [hx] at e; cases e
    | some x =>
      rw [hx] at e
      simp only at e ⊢
      have hlt := (List.getElem?_eq_some_iff.1 hx).1
      have h2 : 0 ≤ ((x.toNat % 128 : Nat) : Int) * 1 := Int.mul_nonneg (by omega) (by omega)
      by_cases hl : x.toNat < 128
      · rw [if_pos hl]; exact Nat.lt_of_lt_of_le (Nat.lt_succ_self _) (finS_ok (by omega) hlt).lo
      · rw [if_neg hl]; exact Nat.lt_of_lt_of_le (Nat.lt_succ_self _) (numM_ok 4 _ _ _ (by omega) (by omega) hlt).lo

/-! Bytes, texts, lists. -/
def takeF (b : List UInt8) (a : Nat) (f : Bool) (n : Int) : List UInt8 × Nat × Bool :=
  match f with
  | true => ([], a, true)
  | false => if n > (b.length : Int) - a then ([], a, true) else ((b.take (a + n.toNat)).drop a, a + n.toNat, false)
def oneF (b : List UInt8) (a : Nat) (f : Bool) : Int × Nat × Bool :=
  match f with
  | true => (0, a, true)
  | false => match b[a]? with | none => (0, a, true) | some x => ((x.toNat : Int), a + 1, false)
/-- How far a reading comes. -/
structure OkA {α : Type} (b : List UInt8) (a : Nat) (r : α × Nat × Bool) : Prop where
  lo : a ≤ r.2.1
  hi : r.2.1 ≤ b.length
theorem takeF_ok {b : List UInt8} {a : Nat} {f : Bool} {n : Int} (ha : a ≤ b.length) (hn : 0 ≤ n) : OkA b a (takeF b a f n) := by
  cases f with
  | true => exact ⟨Nat.le_refl _, ha⟩
  | false =>
    unfold takeF
    by_cases h : n > (b.length : Int) - a
    · simp only [if_pos h]; exact ⟨Nat.le_refl _, ha⟩
    · simp only [if_neg h]; exact ⟨Nat.le_add_right _ _, by show a + n.toNat ≤ _; omega⟩
theorem oneF_ok {b : List UInt8} {a : Nat} {f : Bool} (ha : a ≤ b.length) : OkA b a (oneF b a f) := by
  cases f with
  | true => exact ⟨Nat.le_refl _, ha⟩
  | false =>
    unfold oneF
    cases hx : b[a]? with
    | none => exact ⟨Nat.le_refl _, ha⟩
    | some x => exact ⟨Nat.le_succ _, (List.getElem?_eq_some_iff.1 hx).1⟩
def textFI (b : List UInt8) (a : Nat) (f : Bool) : List UInt8 × Nat × Bool :=
  if (numFI b a f).1 > 60 then ([], (numFI b a f).2.1, true) else takeF b (numFI b a f).2.1 (numFI b a f).2.2 (numFI b a f).1
def textFS (b : List UInt8) (a : Nat) (f : Bool) : List UInt8 × Nat × Bool :=
  if (numFS b a f).2.2 = true ∨ (numFS b a f).1 > 60 ∨ ((numFS b a f).2.1 : Int) + (numFS b a f).1 > b.length then ([], (numFS b a f).2.1, true)
  else ((b.take ((numFS b a f).2.1 + (numFS b a f).1.toNat)).drop (numFS b a f).2.1, (numFS b a f).2.1 + (numFS b a f).1.toNat, false)
theorem textF_rel {b : List UInt8} {a : Nat} {f : Bool} (ha : a ≤ b.length) : RelG (textFI b a f) (textFS b a f) := by
  have h := numF_rel (b := b) (a := a) (f := f)
  have ok := numFS_ok (b := b) (f := f) ha
  have oi := numFI_ok (b := b) (f := f) ha
  unfold textFI textFS
  cases hb : (numFS b a f).2.2 with
  | true =>
    rw [if_pos (c := true = true ∨ _) (.inl rfl)]
    have hi : (numFI b a f).2.2 = true := h.1.trans hb
    rw [if_neg (by rw [oi.bad hi]; omega), hi]
    exact .bad rfl rfl
  | false =>
    rw [h.2 hb]
    by_cases h1 : (numFS b a f).1 > 60
    · rw [if_pos h1, if_pos (c := (false = true ∨ (numFS b a f).1 > 60 ∨ ((numFS b a f).2.1 : Int) + (numFS b a f).1 > b.length)) (.inr (.inl h1))]; exact .bad rfl rfl
    · rw [if_neg h1, hb]
      unfold takeF
      have nn := ok.nn
      by_cases h2 : ((numFS b a f).2.1 : Int) + (numFS b a f).1 > b.length
      · rw [if_pos (c := (false = true ∨ (numFS b a f).1 > 60 ∨ ((numFS b a f).2.1 : Int) + (numFS b a f).1 > b.length)) (.inr (.inr h2))]
        simp only
        rw [if_pos (by omega)]
        exact .bad rfl rfl
      · rw [if_neg (c := (false = true ∨ (numFS b a f).1 > 60 ∨ ((numFS b a f).2.1 : Int) + (numFS b a f).1 > b.length)) (fun e => e.elim (fun e => by cases e) (fun e => e.elim h1 h2))]
        simp only
        rw [if_neg (by omega)]
        exact .refl _
theorem textFI_ok {b : List UInt8} {a : Nat} {f : Bool} (ha : a ≤ b.length) : OkA b a (textFI b a f) := by
  have ok := numFI_ok (b := b) (f := f) ha
  unfold textFI
  by_cases h : (numFI b a f).1 > 60
  · rw [if_pos h]; exact ⟨ok.lo, ok.hi⟩
  · rw [if_neg h]
    have := takeF_ok (b := b) (f := (numFI b a f).2.2) (n := (numFI b a f).1) ok.hi ok.nn
    exact ⟨Nat.le_trans ok.lo this.lo, this.hi⟩
theorem textFS_ok {b : List UInt8} {a : Nat} {f : Bool} (ha : a ≤ b.length) : OkA b a (textFS b a f) := by
  have ok := numFS_ok (b := b) (f := f) ha
  unfold textFS
  have nn := ok.nn
  have lo := ok.lo
  by_cases h : (numFS b a f).2.2 = true ∨ (numFS b a f).1 > 60 ∨ ((numFS b a f).2.1 : Int) + (numFS b a f).1 > b.length
  · rw [if_pos h]; exact ⟨ok.lo, ok.hi⟩
  · rw [if_neg h]
    have h2 : ¬ ((numFS b a f).2.1 : Int) + (numFS b a f).1 > b.length := fun e => h (.inr (.inr e))
    exact ⟨by show a ≤ _ + _; omega, by show _ + _ ≤ _; omega⟩
theorem takeF_len {b : List UInt8} {a : Nat} {f : Bool} {n : Int} (hn : 0 ≤ n) : ((takeF b a f n).1.length : Int) ≤ n := by
  cases f with
  | true => exact hn
  | false =>
    unfold takeF
    by_cases h : n > (b.length : Int) - a
    · simp only [if_pos h]; exact hn
    · simp only [if_neg h, List.length_drop, List.length_take]; omega
theorem textFI_len {b : List UInt8} {a : Nat} {f : Bool} (ha : a ≤ b.length) : (textFI b a f).1.length ≤ 60 := by
  have ok := numFI_ok (b := b) (f := f) ha
  unfold textFI
  by_cases h : (numFI b a f).1 > 60
  · rw [if_pos h]; exact Nat.zero_le _
  · rw [if_neg h]
    have := takeF_len (b := b) (a := (numFI b a f).2.1) (f := (numFI b a f).2.2) ok.nn
    omega
theorem textFI_go {b : List UInt8} {a : Nat} (ha : a ≤ b.length) (h : (textFI b a false).2.2 = false) : a < (textFI b a false).2.1 := by
  have ok := numFI_ok (b := b) (f := false) ha
  unfold textFI at h ⊢
  by_cases h1 : (numFI b a false).1 > 60
  · rw [if_pos h1] at h; cases h
  · rw [if_neg h1] at h ⊢
    cases hb : (numFI b a false).2.2 with
    | true => rw [hb] at h; cases h
    | false =>
      have g := ok.go hb
      have := takeF_ok (b := b) (f := false) (n := (numFI b a false).1) ok.hi ok.nn
      exact Nat.lt_of_lt_of_le g this.lo

def manyG {α : Type} (rd : Nat → α × Nat × Bool) : Nat → List α → Nat → Bool → List α × Nat × Bool
  | 0, out, a, f => (out, a, f)
  | k + 1, out, a, f => match f with | true => (out, a, true) | false => manyG rd k (out ++ [(rd a).1]) (rd a).2.1 (rd a).2.2
theorem manyG_bad {α : Type} {rd : Nat → α × Nat × Bool} {k : Nat} {out : List α} {a : Nat} : manyG rd k out a true = (out, a, true) := by cases k <;> rfl
theorem manyG_go {α : Type} {rd : Nat → α × Nat × Bool} {k : Nat} {out : List α} {a : Nat} {B : List α × Nat × Bool} (h : manyG rd k out a false = B) (hk : 0 < k) : manyG rd (k - 1) (out ++ [(rd a).1]) (rd a).2.1 (rd a).2.2 = B := by
  obtain ⟨k, rfl⟩ : ∃ j, k = j + 1 := ⟨k - 1, by omega⟩
  exact h
theorem manyG_end {α : Type} {rd : Nat → α × Nat × Bool} {k : Nat} {out : List α} {a : Nat} {f : Bool} {B : List α × Nat × Bool} (h : manyG rd k out a f = B) (hk : k = 0 ∨ f = true) : (out, a, f) = B := by
  rcases hk with rfl | rfl
  · exact h
  · rw [manyG_bad] at h; exact h
theorem manyG_rel {α : Type} {b : List UInt8} {rd rt : Nat → α × Nat × Bool} (hr : ∀ a, a ≤ b.length → RelG (rd a) (rt a)) (ho : ∀ a, a ≤ b.length → OkA b a (rd a)) : ∀ (k : Nat) (out out' : List α) (a a' : Nat) (f : Bool), (f = false → out = out' ∧ a = a' ∧ a ≤ b.length) → RelG (manyG rd k out a f) (manyG rt k out' a' f)
  | 0, out, out', a, a', f, h => ⟨rfl, fun e => by obtain ⟨h1, h2, _⟩ := h e; show (out, a, f) = (out', a', f); rw [h1, h2]⟩
  | k + 1, out, out', a, a', true, h => .bad rfl rfl
  | k + 1, out, out', a, a', false, h => by
    obtain ⟨rfl, rfl, ha⟩ := h rfl
    have h1 := hr a ha
    show RelG (manyG rd k _ _ _) (manyG rt k _ _ _)
    rw [h1.1]
    refine manyG_rel hr ho k _ _ _ _ _ fun e => ?_
    rw [h1.2 e]
    exact ⟨rfl, rfl, by rw [← h1.2 e]; exact (ho a ha).hi⟩
def textsFI (b : List UInt8) (a : Nat) (f : Bool) : List (List UInt8) × Nat × Bool := manyG (fun a => textFI b a false) (numFI b a f).1.toNat [] (numFI b a f).2.1 ((numFI b a f).2.2 || decide ((numFI b a f).1 > 40))
def textsFS (b : List UInt8) (a : Nat) (f : Bool) : List (List UInt8) × Nat × Bool := manyG (fun a => textFS b a false) (numFS b a f).1.toNat [] (numFS b a f).2.1 ((numFS b a f).2.2 || decide ((numFS b a f).1 > 40))
theorem textsF_rel {b : List UInt8} {a : Nat} {f : Bool} (ha : a ≤ b.length) : RelG (textsFI b a f) (textsFS b a f) := by
  have h := numF_rel (b := b) (a := a) (f := f)
  have ok := numFS_ok (b := b) (f := f) ha
  unfold textsFI textsFS
  cases hb : (numFS b a f).2.2 with
  | true =>
    simp only [h.1, hb, Bool.true_or, manyG_bad]
    exact .bad rfl rfl
  | false =>
    rw [h.2 hb, hb]
    exact manyG_rel (fun a ha => textF_rel ha) (fun a ha => textFI_ok ha) _ _ _ _ _ _ fun _ => ⟨rfl, rfl, ok.hi⟩
theorem manyG_ok {α : Type} {b : List UInt8} {rd : Nat → α × Nat × Bool} (ho : ∀ a, a ≤ b.length → OkA b a (rd a)) : ∀ (k : Nat) (out : List α) (a : Nat) (f : Bool), a ≤ b.length → OkA b a (manyG rd k out a f)
  | 0, out, a, f, ha => ⟨Nat.le_refl _, ha⟩
  | k + 1, out, a, true, ha => ⟨Nat.le_refl _, ha⟩
  | k + 1, out, a, false, ha => by
    have h := ho a ha
    have := manyG_ok ho k (out ++ [(rd a).1]) (rd a).2.1 (rd a).2.2 h.hi
    exact ⟨Nat.le_trans h.lo this.lo, this.hi⟩
theorem textsFI_ok {b : List UInt8} {a : Nat} {f : Bool} (ha : a ≤ b.length) : OkA b a (textsFI b a f) := by
  have ok := numFI_ok (b := b) (f := f) ha
  have := manyG_ok (b := b) (rd := fun a => textFI b a false) (fun a ha => textFI_ok ha) (numFI b a f).1.toNat [] (numFI b a f).2.1 ((numFI b a f).2.2 || decide ((numFI b a f).1 > 40)) ok.hi
  exact ⟨Nat.le_trans ok.lo this.lo, this.hi⟩
theorem textsFS_ok {b : List UInt8} {a : Nat} {f : Bool} (ha : a ≤ b.length) : OkA b a (textsFS b a f) := by
  have ok := numFS_ok (b := b) (f := f) ha
  have := manyG_ok (b := b) (rd := fun a => textFS b a false) (fun a ha => textFS_ok ha) (numFS b a f).1.toNat [] (numFS b a f).2.1 ((numFS b a f).2.2 || decide ((numFS b a f).1 > 40)) ok.hi
  exact ⟨Nat.le_trans ok.lo this.lo, this.hi⟩
/-- What all the values that were read are. -/
theorem manyG_all {α : Type} {rd : Nat → α × Nat × Bool} {b : List UInt8} {p : α → Prop} (ho : ∀ a, a ≤ b.length → OkA b a (rd a)) (hp : ∀ a, a ≤ b.length → p (rd a).1) : ∀ (k : Nat) (out : List α) (a : Nat) (f : Bool), a ≤ b.length → (∀ x ∈ out, p x) → (∀ x ∈ (manyG rd k out a f).1, p x) ∧ (manyG rd k out a f).1.length ≤ out.length + k
  | 0, out, a, f, ha, h => ⟨h, Nat.le_refl _⟩
  | k + 1, out, a, true, ha, h => ⟨h, by show out.length ≤ _; omega⟩
  | k + 1, out, a, false, ha, h => by
    have := manyG_all ho hp k (out ++ [(rd a).1]) (rd a).2.1 (rd a).2.2 (ho a ha).hi (fun x hx => by
      rcases List.mem_append.1 hx with hx | hx
      · exact h x hx
      · rw [List.mem_singleton.1 hx]; exact hp a ha)
    refine ⟨this.1, ?_⟩
    have h2 := this.2
    rw [List.length_append] at h2
    show (manyG rd k _ _ _).1.length ≤ _
    simp only [List.length_cons, List.length_nil] at h2
    omega
end Go.Proofs.YtfpkfnfgloonhaaGreat
