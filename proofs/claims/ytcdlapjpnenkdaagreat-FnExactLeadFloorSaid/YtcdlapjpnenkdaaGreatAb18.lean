/-
  Typed data as abstract values: how arguments open, what is counted of them, small steps on both.
  No condition: definitions and lemmas over any program.
-/
import Derived.Test.YtcdlapjpnenkdaaGreatAb17
namespace Go.Ab

def intC (n : Int) : List AV := [.int .i64 n]
def boolC (b : Bool) : List AV := [.bool b]
def strC (l : List UInt8) : List AV := [.str l]
def sC {α : Type} (f : α → List AV) (xs : List α) : List AV := [.sl (xs.map f)]

def okT {α : Type} (_ : α) : Prop := True
def okS (l : List UInt8) : Prop := l.length ≤ 9223372036854775807
def okL {α : Type} (p : α → Prop) (xs : List α) : Prop := xs.length ≤ 9223372036854775807 ∧ ∀ x ∈ xs, p x

section
variable {P : Program}
theorem open_int {t : TypeId} (u : P.underlying t = some (.int .i64)) : ∀ n cs, Sh P n t cs → ∃ x : Int, cs = intC x ∧ okT x := by
  intro n cs h
  cases n with
  | zero => unfold Sh at h; exact h.elim
  | succ n =>
    unfold Sh at h
    rw [u] at h
    obtain ⟨x, rfl, _⟩ := h
    exact ⟨x, rfl, trivial⟩
theorem open_bool {t : TypeId} (u : P.underlying t = some .bool) : ∀ n cs, Sh P n t cs → ∃ x : Bool, cs = boolC x ∧ okT x := by
  intro n cs h
  cases n with
  | zero => unfold Sh at h; exact h.elim
  | succ n =>
    unfold Sh at h
    rw [u] at h
    obtain ⟨x, rfl⟩ := h
    exact ⟨x, rfl, trivial⟩
theorem open_str {t : TypeId} (u : P.underlying t = some .string) : ∀ n cs, Sh P n t cs → ∃ x : List UInt8, cs = strC x ∧ okS x := by
  intro n cs h
  cases n with
  | zero => unfold Sh at h; exact h.elim
  | succ n =>
    unfold Sh at h
    rw [u] at h
    obtain ⟨x, rfl, hx⟩ := h
    exact ⟨x, rfl, by unfold okS; simpa [maxLen] using hx⟩
theorem open_list {α : Type} {f : α → List AV} {p : α → Prop} {t e : TypeId} (u : P.underlying t = some (.slice e)) (hf : ∀ n cs, Sh P n e cs → ∃ x : α, cs = f x ∧ p x) : ∀ n cs, Sh P n t cs → ∃ xs : List α, cs = sC f xs ∧ okL p xs := by
  intro n cs h
  cases n with
  | zero => unfold Sh at h; exact h.elim
  | succ n =>
    unfold Sh at h
    rw [u] at h
    obtain ⟨ys, rfl, hl, hy⟩ := h
    have key : ∀ ys : List (List AV), (∀ y ∈ ys, Sh P n e y) → ∃ xs : List α, ys = xs.map f ∧ ∀ x ∈ xs, p x := by
      intro ys
      induction ys with
      | nil => exact fun _ => ⟨[], rfl, by simp⟩
      | cons y ys ih =>
        intro h
        obtain ⟨x, rfl, hp⟩ := hf n y (h y (by simp))
        obtain ⟨xs, rfl, hps⟩ := ih fun z hz => h z (by simp [hz])
        exact ⟨x :: xs, rfl, fun z hz => by rcases List.mem_cons.1 hz with rfl | hz; exact hp; exact hps z hz⟩
    obtain ⟨xs, rfl, hp⟩ := key ys hy
    exact ⟨xs, rfl, by simpa [maxLen] using hl, hp⟩

theorem openV_int {t : TypeId} (u : P.underlying t = some (.int .i64)) {n : Nat} {a : AV} (h : ShV P n t a) : ∃ x : Int, a = .int .i64 x ∧ okT x := by
  unfold ShV at h
  rw [u] at h
  obtain ⟨x, e, hx⟩ := open_int u n _ h
  simp only [intC, List.cons.injEq, and_true] at e
  exact ⟨x, e, hx⟩
theorem openV_bool {t : TypeId} (u : P.underlying t = some .bool) {n : Nat} {a : AV} (h : ShV P n t a) : ∃ x : Bool, a = .bool x ∧ okT x := by
  unfold ShV at h
  rw [u] at h
  obtain ⟨x, e, hx⟩ := open_bool u n _ h
  simp only [boolC, List.cons.injEq, and_true] at e
  exact ⟨x, e, hx⟩
theorem openV_str {t : TypeId} (u : P.underlying t = some .string) {n : Nat} {a : AV} (h : ShV P n t a) : ∃ x : List UInt8, a = .str x ∧ okS x := by
  unfold ShV at h
  rw [u] at h
  obtain ⟨x, e, hx⟩ := open_str u n _ h
  simp only [strC, List.cons.injEq, and_true] at e
  exact ⟨x, e, hx⟩
theorem openV_list {α : Type} {f : α → List AV} {p : α → Prop} {t e : TypeId} (u : P.underlying t = some (.slice e)) (hf : ∀ n cs, Sh P n e cs → ∃ x : α, cs = f x ∧ p x) {n : Nat} {a : AV} (h : ShV P n t a) : ∃ xs : List α, a = .sl (xs.map f) ∧ okL p xs := by
  unfold ShV at h
  rw [u] at h
  obtain ⟨x, e, hx⟩ := open_list u hf n _ h
  simp only [sC, List.cons.injEq, and_true] at e
  exact ⟨x, e, hx⟩
theorem openV_struct {α : Type} {f : α → List AV} {p : α → Prop} {t : TypeId} {fs : Array Field} (u : P.underlying t = some (.struct fs)) (hf : ∀ n cs, Sh P n t cs → ∃ x : α, cs = f x ∧ p x) {n : Nat} {a : AV} (h : ShV P n t a) : ∃ x : α, a = .agg (f x) ∧ p x := by
  unfold ShV at h
  rw [u] at h
  obtain ⟨as, rfl, h⟩ := h
  obtain ⟨x, rfl, hx⟩ := hf n _ h
  exact ⟨x, rfl, hx⟩
end

/-! What is counted. -/
def szN (n : Int) (w : Nat) : Int := if n - (w : Int) < 0 then -1 else n - (w : Int)
def wL {α : Type} (w : α → Nat) (xs : List α) : Nat := xs.length + (xs.map w).sum

theorem szN_neg {n : Int} {w : Nat} (h : n - (w : Int) < 0) : (-1 : Int) = szN n w := by rw [szN, if_pos h]
theorem szN_pos {n a : Int} {w : Nat} (h : ¬ n - (w : Int) < 0) (e : a = n - (w : Int)) : a = szN n w := by rw [szN, if_neg h, e]
theorem pc_true {P : Program} {sh : Bool} {f : Nat} {args : List AV} {p : Prop} [Decidable p] {os : List AObj} (h : PC P sh f args (.bool (decide p)) os) (hp : p) : PC P sh f args (.bool true) os := by
  rwa [decide_eq_true hp] at h
theorem pc_szneg {P : Program} {f : Nat} {args : List AV} {n : Int} {w : Nat} (h : PC P false f args (.int .i64 (szN n w)) []) (hn : n - (w : Int) < 0) : PC P false f args (.int .i64 (-1)) [] := by
  rwa [szN, if_pos hn] at h
theorem pc_szpos {P : Program} {f : Nat} {args : List AV} {n : Int} {w : Nat} (h : PC P false f args (.int .i64 (szN n w)) []) (hn : ¬ n - (w : Int) < 0) : PC P false f args (.int .i64 (n - (w : Int))) [] := by
  rwa [szN, if_neg hn] at h

theorem sum_drop {α : Type} (w : α → Nat) {xs : List α} {k : Nat} {x : α} (h : xs[k]? = some x) : ((xs.drop k).map w).sum = w x + ((xs.drop (k + 1)).map w).sum := by
  rw [drop_get h, List.map_cons, List.sum_cons]
theorem sum_end {α : Type} (w : α → Nat) {xs : List α} {k : Nat} (h : xs.length ≤ k) : ((xs.drop k).map w).sum = 0 := by
  rw [List.drop_eq_nil_of_le h]
  rfl
theorem wL_mem {α : Type} {w : α → Nat} {xs : List α} {x : α} (h : x ∈ xs) : xs.length ≤ wL w xs ∧ w x ≤ wL w xs := by
  refine ⟨by unfold wL; omega, ?_⟩
  induction xs with
  | nil => simp at h
  | cons y ys ih =>
    simp only [wL, List.map_cons, List.sum_cons, List.length_cons] at ih ⊢
    rcases List.mem_cons.1 h with rfl | h
    · omega
    · have := ih h
      omega
theorem wL_len {α : Type} {w : α → Nat} {xs : List α} : xs.length ≤ wL w xs := by unfold wL; omega

/-! Lists whose elements are asked one after the other, each with those before it. -/
def allPre {α : Type} (q : List α → α → Bool) (pre : List α) : List α → Bool
  | [] => true
  | x :: xs => q pre x && allPre q (pre ++ [x]) xs
section
variable {α : Type} {q : List α → α → Bool} {xs : List α} {k : Nat} {x : α} {B : Bool}
theorem allPre_bad (h : allPre q (xs.take k) (xs.drop k) = B) (hx : xs[k]? = some x) (hq : q (xs.take k) x = false) : B = false := by
  rw [drop_get hx] at h
  simp only [allPre, hq, Bool.false_and] at h
  exact h.symm
theorem allPre_go (h : allPre q (xs.take k) (xs.drop k) = B) (hx : xs[k]? = some x) (hq : q (xs.take k) x = true) : allPre q (xs.take (k + 1)) (xs.drop (k + 1)) = B := by
  rw [drop_get hx] at h
  simp only [allPre, hq, Bool.true_and] at h
  rw [take_get hx]
  exact h
theorem allPre_end (h : allPre q (xs.take k) (xs.drop k) = B) (hk : ¬ (k : Int) < xs.length) : B = true := by
  rw [List.drop_eq_nil_of_le (by omega)] at h
  exact h.symm
end

/-! A list of which each element is asked: any, all. -/
section
variable {α : Type} {q : α → Bool} {xs : List α} {k : Nat} {x : α} {B : Bool}
theorem any_hit (h : (xs.drop k).any q = B) (hx : xs[k]? = some x) (hq : q x = true) : B = true := by
  rw [drop_get hx, List.any_cons, hq, Bool.true_or] at h
  exact h.symm
theorem any_go (h : (xs.drop k).any q = B) (hx : xs[k]? = some x) (hq : q x = false) : (xs.drop (k + 1)).any q = B := by
  rw [drop_get hx, List.any_cons, hq, Bool.false_or] at h
  exact h
theorem any_end (h : (xs.drop k).any q = B) (hk : ¬ (k : Int) < xs.length) : B = false := by
  rw [List.drop_eq_nil_of_le (by omega)] at h
  exact h.symm
theorem all_bad (h : (xs.drop k).all q = B) (hx : xs[k]? = some x) (hq : q x = false) : B = false := by
  rw [drop_get hx, List.all_cons, hq, Bool.false_and] at h
  exact h.symm
theorem all_go (h : (xs.drop k).all q = B) (hx : xs[k]? = some x) (hq : q x = true) : (xs.drop (k + 1)).all q = B := by
  rw [drop_get hx, List.all_cons, hq, Bool.true_and] at h
  exact h
theorem all_end (h : (xs.drop k).all q = B) (hk : ¬ (k : Int) < xs.length) : B = true := by
  rw [List.drop_eq_nil_of_le (by omega)] at h
  exact h.symm
end

end Go.Ab
