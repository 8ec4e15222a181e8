/-
  Letters in transit: what holds of them (plain law of FnLost).
  No condition.
-/
import Derived.Test.YtkalobhgonaibaaLost2
namespace Go.Proofs.Ytkalobhgonaibaa
open Go.Ab
set_option linter.unusedSimpArgs false
set_option maxRecDepth 20000
set_option maxHeartbeats 4000000
set_option linter.unusedVariables false

def Asc (xs : List LetterT) : Prop := xs.Pairwise fun a b => a.Due ≤ b.Due
theorem good_iff {n : Nat} : ∀ (xs pre : List LetterT), allPre (goodUnder n) pre xs = true ↔ (∀ l ∈ xs, okLetter n l = true) ∧ Asc xs ∧ ∀ l ∈ xs, lastDue pre ≤ l.Due
  | [], pre => ⟨fun _ => ⟨fun _ h => (by cases h), List.Pairwise.nil, fun _ h => (by cases h)⟩, fun _ => rfl⟩
  | x :: xs, pre => by
    have e : lastDue (pre ++ [x]) = x.Due := by simp [lastDue]
    unfold allPre
    rw [Bool.and_eq_true, good_iff xs (pre ++ [x]), e]
    unfold goodUnder
    rw [Bool.and_eq_true, decide_eq_true_eq]
    constructor
    · rintro ⟨⟨h1, h2⟩, h3, h4, h5⟩
      refine ⟨fun l hl => ?_, List.pairwise_cons.2 ⟨h5, h4⟩, fun l hl => ?_⟩
      · rcases List.mem_cons.1 hl with rfl | hl
        · exact h1
        · exact h3 l hl
      · rcases List.mem_cons.1 hl with rfl | hl
        · exact h2
        · have := h5 l hl; omega
    · rintro ⟨h1, h2, h3⟩
      obtain ⟨h4, h5⟩ := List.pairwise_cons.1 h2
      exact ⟨⟨h1 x (by simp), h3 x (by simp)⟩, fun l hl => h1 l (by simp [hl]), h5, h4⟩
theorem okNet_iff {w : NetT} : okNet w = true ↔ inB 0 w.Now 100000 = true ∧ okHomes w.Homes w.Far = true ∧ w.Under.length ≤ 60 ∧ (∀ l ∈ w.Under, okLetter w.Homes.length l = true) ∧ Asc w.Under := by
  unfold okNet
  simp only [Bool.and_eq_true, decide_eq_true_eq, good_iff]
  constructor
  · rintro ⟨⟨⟨h1, h2⟩, h3⟩, h4, h5, _⟩
    exact ⟨h1, h2, by omega, h4, h5⟩
  · rintro ⟨h1, h2, h3, h4, h5⟩
    exact ⟨⟨⟨h1, h2⟩, by omega⟩, h4, h5, fun l hl => by show 0 ≤ l.Due; exact okLetter_due (h4 l hl)⟩
theorem net_okk {w : NetT} (h : okNet w = true) : w.ok ∧ w.w ≤ 1048576 := by
  obtain ⟨h1, h2, h3, h4, h5⟩ := okNet_iff.1 h
  have hb : ∀ l ∈ w.Under, l.Body.length ≤ 40 := fun l hl => by
    have := h4 l hl
    simp only [okLetter, Bool.and_eq_true] at this
    have := inB_le this.2
    omega
  have hh : w.Homes.length ≤ 5 := by
    simp only [okHomes, Bool.and_eq_true] at h2
    have := inB_le h2.1.1
    omega
  have hw : wL LetterT.w w.Under ≤ 1048000 := by
    have key : ∀ xs : List LetterT, (∀ l ∈ xs, l.Body.length ≤ 40) → wL LetterT.w xs ≤ 100 * xs.length := by
      intro xs
      induction xs with
      | nil => intro _; exact Nat.le_refl _
      | cons x xs ih =>
        intro hx
        have h6 := ih fun l hl => hx l (by simp [hl])
        have h7 := hx x (by simp)
        have h8 : LetterT.w x = x.Body.length := rfl
        simp only [wL, List.map_cons, List.sum_cons, List.length_cons] at h6 ⊢
        omega
    have := key w.Under hb
    omega
  have h9 : w.w = w.Homes.length + wL LetterT.w w.Under := rfl
  refine ⟨⟨trivial, ⟨by omega, fun _ _ => trivial⟩, trivial, by omega, fun l hl => ?_⟩, by omega⟩
  have := hb l hl
  exact ⟨trivial, trivial, trivial, by show l.Body.length ≤ _; omega⟩
theorem asc_drop {xs : List LetterT} {n : Nat} (h : Asc xs) : Asc (xs.drop n) := h.sublist (List.drop_sublist n xs)
theorem posL_take {d : Int} {xs : List LetterT} : ∀ y ∈ xs.take (posL d xs), y.Due ≤ d := by
  intro y hy
  have hno : ∀ z : LetterT, aft d z = false → z.Due ≤ d := fun z hz => by
    unfold aft at hz
    simpa using hz
  rcases idxF_bound (aft d) xs with h | h
  · exact hno y (idxF_none h y (List.mem_of_mem_take hy))
  · obtain ⟨x, h1, h2, h3⟩ := idxF_some (q := aft d) (xs := xs) (k := 0) (i := (idxF (aft d) 0 xs).toNat) (by omega)
    refine hno y (h3 y ?_)
    unfold posL at hy
    rw [if_neg (by omega)] at hy
    exact hy
theorem posL_drop {d : Int} {xs : List LetterT} (hs : Asc xs) : ∀ y ∈ xs.drop (posL d xs), d < y.Due := by
  intro y hy
  rcases idxF_bound (aft d) xs with h | h
  · rw [posL_end (by omega), List.drop_length] at hy
    cases hy
  · obtain ⟨x, h1, h2, h3⟩ := idxF_some (q := aft d) (xs := xs) (k := 0) (i := (idxF (aft d) 0 xs).toNat) (by omega)
    have hx : d < x.Due := by unfold aft at h2; simpa using h2
    have hp : posL d xs = (idxF (aft d) 0 xs).toNat := by unfold posL; rw [if_neg (by omega)]
    rw [hp] at hy
    obtain ⟨hlt, he⟩ := List.getElem?_eq_some_iff.1 h1
    rw [List.drop_eq_getElem_cons hlt, he] at hy
    have hs2 : Asc (xs.drop (idxF (aft d) 0 xs).toNat) := asc_drop hs
    unfold Asc at hs2
    rw [List.drop_eq_getElem_cons hlt, he] at hs2
    rcases List.mem_cons.1 hy with rfl | hy
    · exact hx
    · have := (List.pairwise_cons.1 hs2).1 y hy
      omega
theorem laidL_mem {xs : List LetterT} {l y : LetterT} (h : y ∈ laidL xs l) : y ∈ xs ∨ y = l := by
  unfold laidL insL at h
  simp only [List.mem_append, List.mem_singleton] at h
  rcases h with (h | h) | h
  · exact .inl (List.mem_of_mem_take h)
  · exact .inr h
  · exact .inl (List.mem_of_mem_drop h)
theorem laidL_len {xs : List LetterT} {l : LetterT} : (laidL xs l).length = xs.length + 1 := by
  unfold laidL insL
  have := posL_le l.Due xs
  simp only [List.length_append, List.length_take, List.length_drop, List.length_cons, List.length_nil]
  omega
theorem laidL_asc {xs : List LetterT} {l : LetterT} (hs : Asc xs) : Asc (laidL xs l) := by
  unfold laidL insL Asc
  rw [List.append_assoc, List.pairwise_append]
  refine ⟨hs.sublist (List.take_sublist _ _), ?_, ?_⟩
  · rw [List.singleton_append, List.pairwise_cons]
    exact ⟨fun y hy => by have := posL_drop (d := l.Due) hs y hy; omega, asc_drop hs⟩
  · intro a ha b hb
    have h1 := posL_take (d := l.Due) a ha
    simp only [List.singleton_append, List.mem_cons] at hb
    rcases hb with rfl | hb
    · exact h1
    · have := posL_drop (d := l.Due) hs b hb
      omega
theorem outL_len {xs : List LetterT} {i : Nat} (h : i < xs.length) : (outL xs i).length + 1 = xs.length := by
  unfold outL
  simp only [List.length_append, List.length_take, List.length_drop]
  omega
theorem outL_mem {xs : List LetterT} {i : Nat} {y : LetterT} (h : y ∈ outL xs i) : y ∈ xs := by
  unfold outL at h
  rcases List.mem_append.1 h with h | h
  · exact List.mem_of_mem_take h
  · exact List.mem_of_mem_drop h

/-- The network on its way. -/
structure Mid (k : Nat) (w : NetT) (m c d B : Int) : Prop where
  ok : okNet w = true
  now : w.Now = (k : Int)
  homes : w.Homes = [0, 1, 2]
  far : 0 ≤ w.Far ∧ w.Far ≤ 4
  len : (w.Under.length : Int) = m - c
  due : ∀ l ∈ w.Under, l.Due ≤ d
  mb : -B ≤ m ∧ m ≤ B
section
variable {k : Nat} {w : NetT} {m c d B : Int}
theorem Mid.cb (h : Mid k w m c d B) : -B - 60 ≤ c ∧ c ≤ B := by
  have h1 := h.len
  have h2 := h.mb
  have h3 := (okNet_iff.1 h.ok).2.2.1
  omega
theorem Mid.more (h : Mid k w m c d B) {d' B' : Int} (hd : d ≤ d') (hB : B ≤ B') : Mid k w m c d' B' := ⟨h.ok, h.now, h.homes, h.far, h.len, fun l hl => by have := h.due l hl; omega, by have := h.mb; omega⟩
theorem trip_le {w : NetT} {a b : Int} (hh : w.Homes = [0, 1, 2]) (hf : 0 ≤ w.Far ∧ w.Far ≤ 4) (ha : okWho w.Homes.length a = true) (hb : okWho w.Homes.length b = true) : 1 ≤ tripN w a b ∧ tripN w a b ≤ 9 := by
  have h1 := okWho_lt ha (by rw [hh]; decide)
  have h2 := okWho_lt hb (by rw [hh]; decide)
  have hho : ∀ x : Int, 0 ≤ x → x < 3 → 0 ≤ homeOf w x ∧ homeOf w x ≤ 2 := by
    intro x h0 h3
    unfold homeOf
    rw [hh]
    have : x = 0 ∨ x = 1 ∨ x = 2 := by omega
    rcases this with rfl | rfl | rfl <;> decide
  have hl : w.Homes.length = 3 := by rw [hh]; rfl
  rw [hl] at h1 h2
  have g1 := hho a h1.1 (by omega)
  have g2 := hho b h2.1 (by omega)
  have hm : 0 ≤ mx (homeOf w a - homeOf w b) (homeOf w b - homeOf w a) ∧ mx (homeOf w a - homeOf w b) (homeOf w b - homeOf w a) ≤ 2 := by unfold mx; split <;> omega
  unfold tripN
  generalize mx (homeOf w a - homeOf w b) (homeOf w b - homeOf w a) = q at hm
  have e1 : w.Far * q ≤ 4 * 2 := Int.mul_le_mul hf.2 hm.2 hm.1 (by omega)
  have e0 : 0 ≤ w.Far * q := Int.mul_nonneg hf.1 hm.1
  omega
theorem Mid.send (h : Mid k w m c d B) {a b : Int} {body : List UInt8} (hk : k ≤ 1000) (hd : (k : Int) + 9 ≤ d) (ho : okSent w a b body = true) : Mid k (sentN w a b body) (m + 1) c d (B + 1) := by
  obtain ⟨h1, h2, h3, h4, h5⟩ := okNet_iff.1 h.ok
  unfold okSent at ho
  simp only [Bool.and_eq_true, Bool.not_eq_true', decide_eq_true_eq, decide_eq_false_iff_not] at ho
  obtain ⟨o1, o2, o3, o4, o5⟩ := ho
  have ht := trip_le h.homes h.far o1 o2
  have hdue : (letN w a b body).Due ≤ d := by
    show IntKind.i64.wrap (w.Now + tripN w a b) ≤ d
    rw [h.now, i64_wrap (by omega) (by omega)]
    omega
  refine ⟨okNet_iff.2 ⟨h1, h2, ?_, fun l hl => ?_, laidL_asc h5⟩, h.now, h.homes, h.far, ?_, fun l hl => ?_, by have := h.mb; omega⟩
  · show (laidL _ _).length ≤ 60
    rw [laidL_len]; omega
  · rcases laidL_mem hl with hl | rfl
    · exact h4 l hl
    · exact o4
  · show ((laidL _ _).length : Int) = _
    have := h.len
    rw [laidL_len]; omega
  · rcases laidL_mem hl with hl | rfl
    · exact h.due l hl
    · exact hdue
theorem Mid.lose (h : Mid k w m c d B) {i : Int} (hi : okAt w i = true) (ho : okNet (withN w (outL w.Under i.toNat)) = true) : Mid k (withN w (outL w.Under i.toNat)) (m + -1) c d (B + 1) := by
  have h3 := (okNet_iff.1 h.ok).2.2.1
  unfold okAt at hi
  rw [Bool.and_eq_true] at hi
  have hb := inB_le hi.2
  refine ⟨ho, h.now, h.homes, h.far, ?_, fun l hl => h.due l (outL_mem hl), by have := h.mb; omega⟩
  show ((outL _ _).length : Int) = _
  have := outL_len (xs := w.Under) (i := i.toNat) (by omega)
  have := h.len
  omega
theorem Mid.double (h : Mid k w m c d B) {y : LetterT} (hy : y ∈ w.Under) (ho : okNet (withN w (laidL w.Under y)) = true) : Mid k (withN w (laidL w.Under y)) (m + 1) c d (B + 1) := by
  refine ⟨ho, h.now, h.homes, h.far, ?_, fun l hl => ?_, by have := h.mb; omega⟩
  · show ((laidL _ _).length : Int) = _
    have := h.len
    rw [laidL_len]; omega
  · rcases laidL_mem hl with hl | rfl
    · exact h.due l hl
    · exact h.due l hy
theorem Mid.delay (h : Mid k w m c d B) {i b : Int} {y : LetterT} (hi : okAt w i = true) (hy : y ∈ w.Under) (hb : inB 1 b 50 = true) (hd : d ≤ 1000000) (ho : okNet (withN w (laidL (outL w.Under i.toNat) (lateL y b))) = true) : Mid k (withN w (laidL (outL w.Under i.toNat) (lateL y b))) m c (d + 50) B := by
  obtain ⟨h1, h2, h3, h4, h5⟩ := okNet_iff.1 h.ok
  unfold okAt at hi
  rw [Bool.and_eq_true] at hi
  have hib := inB_le hi.2
  have hbb := inB_le hb
  refine ⟨ho, h.now, h.homes, h.far, ?_, fun l hl => ?_, h.mb⟩
  · show ((laidL _ _).length : Int) = _
    have := outL_len (xs := w.Under) (i := i.toNat) (by omega)
    have := h.len
    rw [laidL_len]; omega
  · rcases laidL_mem hl with hl | rfl
    · have := h.due l (outL_mem hl); omega
    · have := h.due y hy
      have h0 := okLetter_due (h4 y hy)
      show IntKind.i64.wrap (y.Due + b) ≤ d + 50
      rw [i64_wrap (by omega) (by omega)]
      omega
theorem Mid.okTick (h : Mid k w m c d B) (hk : k < 100000) : okTick w = true := by
  unfold Proofs.Ytkalobhgonaibaa.okTick
  rw [h.ok, h.now]
  simp
  omega
theorem Mid.tick (h : Mid k w m c d B) (hk : k < 100000) : Mid (k + 1) (tickN w) m c d B := by
  have e : IntKind.i64.wrap (w.Now + 1) = ((k + 1 : Nat) : Int) := by rw [h.now, i64_wrap (by omega) (by omega)]; omega
  refine ⟨?_, e, h.homes, h.far, h.len, h.due, h.mb⟩
  rw [tick_eq h.ok, h.now]
  simp
  omega
theorem Mid.del (h : Mid k w m c d B) : Mid k (delN w) m (c + ((delL w).length : Nat)) d B := by
  obtain ⟨h1, h2, h3, h4, h5⟩ := okNet_iff.1 h.ok
  have hp := posL_le w.Now w.Under
  refine ⟨okNet_iff.2 ⟨h1, h2, ?_, fun l hl => h4 l (List.mem_of_mem_drop hl), asc_drop h5⟩, h.now, h.homes, h.far, ?_, fun l hl => h.due l (List.mem_of_mem_drop hl), h.mb⟩
  · show (w.Under.drop _).length ≤ 60
    rw [List.length_drop]; omega
  · show ((w.Under.drop _).length : Int) = m - (c + ((w.Under.take _).length : Nat))
    have := h.len
    rw [List.length_drop, List.length_take]; omega
theorem Mid.left (h : Mid k w m c d B) : ∀ l ∈ (delN w).Under, (k : Int) < l.Due := by
  have h5 := (okNet_iff.1 h.ok).2.2.2.2
  intro l hl
  have := posL_drop (d := w.Now) h5 l hl
  rw [h.now] at this
  exact this
/-- So late none is left. -/
theorem Mid.none (h : Mid k w m c d B) (hl : ∀ l ∈ w.Under, (k : Int) < l.Due) (hk : d ≤ (k : Int)) : w.Under = [] := by
  cases hu : w.Under with
  | nil => rfl
  | cons x xs =>
    exfalso
    have h1 := h.due x (by rw [hu]; simp)
    have h2 := hl x (by rw [hu]; simp)
    omega
end
end Go.Proofs.Ytkalobhgonaibaa
