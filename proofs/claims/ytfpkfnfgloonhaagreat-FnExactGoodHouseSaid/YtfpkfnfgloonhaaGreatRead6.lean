/-
  What ReadRec gives.
  No condition.
-/
import Derived.Test.YtfpkfnfgloonhaaGreatRead5
namespace Go.Proofs.YtfpkfnfgloonhaaGreat
open Go.Ab
set_option linter.unusedSimpArgs false
set_option maxRecDepth 20000
set_option maxHeartbeats 4000000
set_option linter.unusedVariables false

/-! The two readings of a record. -/
def rdWI (b : List UInt8) (a : Nat) (f : Bool) : WriteT × Nat × Bool :=
  (⟨(textFI b a f).1, (textFI b (takeF b (textFI b a f).2.1 (textFI b a f).2.2 1).2.1 (takeF b (textFI b a f).2.1 (textFI b a f).2.2 1).2.2).1, (takeF b (textFI b a f).2.1 (textFI b a f).2.2 1).1 == [1]⟩, (textFI b (takeF b (textFI b a f).2.1 (textFI b a f).2.2 1).2.1 (takeF b (textFI b a f).2.1 (textFI b a f).2.2 1).2.2).2)
def rdWS (b : List UInt8) (a : Nat) (f : Bool) : WriteT × Nat × Bool :=
  (⟨(textFS b a f).1, (textFS b (oneF b (textFS b a f).2.1 (textFS b a f).2.2).2.1 (oneF b (textFS b a f).2.1 (textFS b a f).2.2).2.2).1, (oneF b (textFS b a f).2.1 (textFS b a f).2.2).1 == 1⟩, (textFS b (oneF b (textFS b a f).2.1 (textFS b a f).2.2).2.1 (oneF b (textFS b a f).2.1 (textFS b a f).2.2).2.2).2)
theorem take_one_rel {b : List UInt8} {a : Nat} {f : Bool} (ha : a ≤ b.length) : (takeF b a f 1).2 = (oneF b a f).2 ∧ ((oneF b a f).2.2 = false → ((takeF b a f 1).1 == [1]) = ((oneF b a f).1 == 1)) := by
  cases f with
  | true => exact ⟨rfl, fun e => by cases e⟩
  | false =>
    cases hx : b[a]? with
    | none =>
      rw [takeF_one_no hx, oneF_no (.inr (by have := List.getElem?_eq_none_iff.1 hx; omega))]
      exact ⟨rfl, fun e => by cases e⟩
    | some x =>
      rw [takeF_one hx, oneF_yes hx]
      refine ⟨rfl, fun _ => ?_⟩
      rw [Bool.eq_iff_iff, beq_iff_eq, beq_iff_eq]
      constructor
      · intro h
        cases h
        rfl
      · intro h
        have : x = 1 := UInt8.toNat_inj.1 (by show x.toNat = 1; omega)
        rw [this]
theorem textFI_bad {b : List UInt8} {a : Nat} : textFI b a true = ([], a, true) := by
  unfold textFI numFI takeF
  exact if_neg (show ¬ (0 : Int) > 60 by decide)
theorem textFS_bad {b : List UInt8} {a : Nat} : textFS b a true = ([], a, true) := by
  unfold textFS numFS
  rw [if_pos (.inl rfl)]
theorem rdW_ok {b : List UInt8} {a : Nat} {f : Bool} (ha : a ≤ b.length) : OkA b a (rdWI b a f) := by
  have h1 := textFI_ok (b := b) (f := f) ha
  have h2 := takeF_ok (b := b) (f := (textFI b a f).2.2) (n := 1) h1.hi (by omega)
  have h3 := textFI_ok (b := b) (f := (takeF b (textFI b a f).2.1 (textFI b a f).2.2 1).2.2) h2.hi
  exact ⟨Nat.le_trans h1.lo (Nat.le_trans h2.lo h3.lo), h3.hi⟩
theorem rdWS_ok {b : List UInt8} {a : Nat} {f : Bool} (ha : a ≤ b.length) : OkA b a (rdWS b a f) := by
  have h1 := textFS_ok (b := b) (f := f) ha
  have h2 := oneF_ok (b := b) (f := (textFS b a f).2.2) h1.hi
  have h3 := textFS_ok (b := b) (f := (oneF b (textFS b a f).2.1 (textFS b a f).2.2).2.2) h2.hi
  exact ⟨Nat.le_trans h1.lo (Nat.le_trans h2.lo h3.lo), h3.hi⟩
theorem rdW_rel {b : List UInt8} {a : Nat} {f : Bool} (ha : a ≤ b.length) : RelG (rdWI b a f) (rdWS b a f) := by
  have h1 := textF_rel (b := b) (a := a) (f := f) ha
  have o1 := textFI_ok (b := b) (f := f) ha
  have p1 := textFS_ok (b := b) (f := f) ha
  cases hb : (textFS b a f).2.2 with
  | true =>
    have hi := h1.1.trans hb
    refine .bad ?_ ?_
    · show (textFI b (takeF b (textFI b a f).2.1 (textFI b a f).2.2 1).2.1 (takeF b (textFI b a f).2.1 (textFI b a f).2.2 1).2.2).2.2 = true
      rw [hi]
      show (textFI b (textFI b a f).2.1 true).2.2 = true
      rw [textFI_bad]
    · show (textFS b (oneF b (textFS b a f).2.1 (textFS b a f).2.2).2.1 (oneF b (textFS b a f).2.1 (textFS b a f).2.2).2.2).2.2 = true
      rw [hb]
      show (textFS b (textFS b a f).2.1 true).2.2 = true
      rw [textFS_bad]
  | false =>
    have e1 := h1.2 hb
    have h2 := take_one_rel (b := b) (a := (textFS b a f).2.1) (f := (textFS b a f).2.2) p1.hi
    have p2 := oneF_ok (b := b) (f := (textFS b a f).2.2) p1.hi
    have h3 := textF_rel (b := b) (a := (oneF b (textFS b a f).2.1 (textFS b a f).2.2).2.1) (f := (oneF b (textFS b a f).2.1 (textFS b a f).2.2).2.2) p2.hi
    unfold rdWI rdWS
    rw [e1, h2.1]
    refine ⟨h3.1, fun e => ?_⟩
    have e : (textFS b (oneF b (textFS b a f).2.1 (textFS b a f).2.2).2.1 (oneF b (textFS b a f).2.1 (textFS b a f).2.2).2.2).2.2 = false := e
    have e3 := h3.2 e
    have eo : (oneF b (textFS b a f).2.1 (textFS b a f).2.2).2.2 = false := by
      cases ho : (oneF b (textFS b a f).2.1 (textFS b a f).2.2).2.2 with
      | false => rfl
      | true => rw [ho, textFS_bad] at e; cases e
    rw [e3, h2.2 eo]
def rA1 (s : List UInt8) := numFI s 0 false
def rA2 (s : List UInt8) := numFI s (rA1 s).2.1 (rA1 s).2.2
def rA3 (s : List UInt8) := numFI s (rA2 s).2.1 (rA2 s).2.2
def rA4 (s : List UInt8) := numFI s (rA3 s).2.1 (rA3 s).2.2
def rA5 (s : List UInt8) := takeF s (rA4 s).2.1 (rA4 s).2.2 1
def rA6 (s : List UInt8) := textsFI s (rA5 s).2.1 (rA5 s).2.2
def rA7 (s : List UInt8) := numFI s (rA6 s).2.1 (rA6 s).2.2
def rA8 (s : List UInt8) := manyG (fun a => rdWI s a false) (rA7 s).1.toNat [] (rA7 s).2.1 (rA7 s).2.2
def recI (s : List UInt8) : RecT × Bool := (⟨(rA1 s).1, (rA2 s).1, (rA3 s).1, (rA4 s).1, (rA6 s).1, (rA8 s).1, (rA5 s).1 == [1]⟩, (rA8 s).2.2)
def rB1 (s : List UInt8) := numFS s 0 false
def rB2 (s : List UInt8) := numFS s (rB1 s).2.1 (rB1 s).2.2
def rB3 (s : List UInt8) := numFS s (rB2 s).2.1 (rB2 s).2.2
def rB4 (s : List UInt8) := numFS s (rB3 s).2.1 (rB3 s).2.2
def rB5 (s : List UInt8) := oneF s (rB4 s).2.1 (rB4 s).2.2
def rB6 (s : List UInt8) := textsFS s (rB5 s).2.1 (rB5 s).2.2
def rB7 (s : List UInt8) := numFS s (rB6 s).2.1 (rB6 s).2.2
def rB8 (s : List UInt8) := manyG (fun a => rdWS s a false) (rB7 s).1.toNat [] (rB7 s).2.1 (rB7 s).2.2
def recS (s : List UInt8) : RecT × Bool := (⟨(rB1 s).1, (rB2 s).1, (rB3 s).1, (rB4 s).1, (rB6 s).1, (rB8 s).1, (rB5 s).1 == 1⟩, (rB8 s).2.2)
section
variable {s : List UInt8}
theorem a1 : (rA1 s).2.1 ≤ s.length := (numFI_ok (Nat.zero_le _)).hi
theorem a2 : (rA2 s).2.1 ≤ s.length := (numFI_ok a1).hi
theorem a3 : (rA3 s).2.1 ≤ s.length := (numFI_ok a2).hi
theorem a4 : (rA4 s).2.1 ≤ s.length := (numFI_ok a3).hi
theorem a5 : (rA5 s).2.1 ≤ s.length := (takeF_ok a4 (by omega)).hi
theorem a6 : (rA6 s).2.1 ≤ s.length := (textsFI_ok a5).hi
theorem a7 : (rA7 s).2.1 ≤ s.length := (numFI_ok a6).hi
theorem b1' : (rB1 s).2.1 ≤ s.length := (numFS_ok (Nat.zero_le _)).hi
theorem b2' : (rB2 s).2.1 ≤ s.length := (numFS_ok b1').hi
theorem b3' : (rB3 s).2.1 ≤ s.length := (numFS_ok b2').hi
theorem b4' : (rB4 s).2.1 ≤ s.length := (numFS_ok b3').hi
theorem b5' : (rB5 s).2.1 ≤ s.length := (oneF_ok b4').hi
theorem b6' : (rB6 s).2.1 ≤ s.length := (textsFS_ok b5').hi
theorem b7' : (rB7 s).2.1 ≤ s.length := (numFS_ok b6').hi
theorem num_next {r t : Int × Nat × Bool} (h : RelG r t) (ht : t.2.1 ≤ s.length) : RelG (numFI s r.2.1 r.2.2) (numFS s t.2.1 t.2.2) := by
  cases hb : t.2.2 with
  | true => rw [h.1, hb]; exact .bad rfl rfl
  | false => rw [h.2 hb, hb]; exact numF_rel
theorem bad_num {r : Int × Nat × Bool} (h : (numFS s r.2.1 r.2.2).2.2 = false) : r.2.2 = false := by
  cases hb : r.2.2 with
  | false => rfl
  | true => rw [hb] at h; cases h
theorem rec_rel : (recI s).2 = (recS s).2 ∧ ((recS s).2 = false → recI s = recS s) := by
  have h1 : RelG (rA1 s) (rB1 s) := numF_rel
  have h2 : RelG (rA2 s) (rB2 s) := num_next h1 b1'
  have h3 : RelG (rA3 s) (rB3 s) := num_next h2 b2'
  have h4 : RelG (rA4 s) (rB4 s) := num_next h3 b3'
  -- the flag
  have h5 : (rA5 s).2.2 = (rB5 s).2.2 ∧ ((rB5 s).2.2 = false → (rA5 s).2 = (rB5 s).2 ∧ ((rA5 s).1 == [1]) = ((rB5 s).1 == 1)) := by
    unfold rA5 rB5
    cases hb : (rB4 s).2.2 with
    | true => rw [h4.1, hb]; exact ⟨rfl, fun e => by cases e⟩
    | false =>
      rw [h4.2 hb, hb]
      have := take_one_rel (b := s) (a := (rB4 s).2.1) (f := false) b4'
      exact ⟨congrArg Prod.snd this.1, fun e => ⟨this.1, this.2 e⟩⟩
  have h6 : RelG (rA6 s) (rB6 s) := by
    unfold rA6 rB6
    cases hb : (rB5 s).2.2 with
    | true =>
      rw [h5.1, hb]
      exact .bad (by unfold textsFI numFI; rw [show (true || decide ((0 : Int) > 40)) = true from rfl, manyG_bad]) (by unfold textsFS numFS; rw [show (true || decide ((0 : Int) > 40)) = true from rfl, manyG_bad])
    | false =>
      have e := (h5.2 hb).1
      rw [show (rA5 s).2.1 = (rB5 s).2.1 from congrArg Prod.fst e, h5.1, hb]
      exact textsF_rel b5'
  have h7 : RelG (rA7 s) (rB7 s) := by
    unfold rA7 rB7
    cases hb : (rB6 s).2.2 with
    | true => rw [h6.1, hb]; exact .bad rfl rfl
    | false => rw [h6.2 hb, hb]; exact numF_rel
  have h8 : RelG (rA8 s) (rB8 s) := by
    unfold rA8 rB8
    cases hb : (rB7 s).2.2 with
    | true => rw [h7.1, hb, manyG_bad, manyG_bad]; exact .bad rfl rfl
    | false =>
      rw [h7.2 hb, hb]
      exact manyG_rel (fun a ha => rdW_rel ha) (fun a ha => rdW_ok ha) _ _ _ _ _ _ fun _ => ⟨rfl, rfl, b7'⟩
  refine ⟨h8.1, fun e => ?_⟩
  have e8 : (rB8 s).2.2 = false := e
  have e7 : (rB7 s).2.2 = false := by
    cases hb : (rB7 s).2.2 with
    | false => rfl
    | true => unfold rB8 at e8; rw [hb, manyG_bad] at e8; cases e8
  have e6 : (rB6 s).2.2 = false := by
    cases hb : (rB6 s).2.2 with
    | false => rfl
    | true => unfold rB7 at e7; rw [hb] at e7; cases e7
  have e5 : (rB5 s).2.2 = false := by
    cases hb : (rB5 s).2.2 with
    | false => rfl
    | true => unfold rB6 textsFS numFS at e6; rw [hb, show (true || decide ((0 : Int) > 40)) = true from rfl, manyG_bad] at e6; cases e6
  have e4 : (rB4 s).2.2 = false := by
    cases hb : (rB4 s).2.2 with
    | false => rfl
    | true => unfold rB5 at e5; rw [hb] at e5; cases e5
  have e3 : (rB3 s).2.2 = false := bad_num e4
  have e2 : (rB2 s).2.2 = false := bad_num e3
  have e1 : (rB1 s).2.2 = false := bad_num e2
  unfold recI recS
  rw [h1.2 e1, h2.2 e2, h3.2 e3, h4.2 e4, h6.2 e6, h8.2 e8, (h5.2 e5).2]
end
end Go.Proofs.YtfpkfnfgloonhaaGreat
