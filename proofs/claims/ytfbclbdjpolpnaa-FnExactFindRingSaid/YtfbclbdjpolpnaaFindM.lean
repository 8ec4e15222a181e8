/-
  Distances in a graph: by rounds of layers, and by relaxing in place; the ring through a vertex.
  No condition.
-/
import Derived.Test.YtfbclbdjpolpnaaM4
namespace Go.FR
set_option linter.unusedVariables false

/-- The neighbours of u, as numbers. -/
def nb (ws : List (List Int)) (u : Nat) : List Nat := ((ws[u]?).getD []).map Int.toNat
/-- u comes to t in m steps or less. -/
def R (ws : List (List Int)) (t : Nat) : Nat → Nat → Bool
  | 0, u => decide (u = t)
  | m + 1, u => R ws t m u || (nb ws u).any (R ws t m)
/-- u comes to t in m steps or less, and at least one. -/
def Q (ws : List (List Int)) (t : Nat) : Nat → Nat → Bool
  | 0, _ => false
  | m + 1, u => (nb ws u).any (R ws t m)
/-- The least number of steps, from 1 to m; 0 where there is none. -/
def L (ws : List (List Int)) (t : Nat) : Nat → Nat → Nat
  | 0, _ => 0
  | m + 1, u => if L ws t m u ≠ 0 then L ws t m u else if Q ws t (m + 1) u then m + 1 else 0

section
variable {ws : List (List Int)} {t : Nat}

theorem R_mono1 {m u : Nat} (h : R ws t m u = true) : R ws t (m + 1) u = true := by
  simp only [R, h, Bool.true_or]
theorem R_mono {m k u : Nat} (hk : m ≤ k) (h : R ws t m u = true) : R ws t k u = true := by
  induction hk with
  | refl => exact h
  | step _ ih => exact R_mono1 ih
theorem Q_mono {m k u : Nat} (hk : m ≤ k) (h : Q ws t m u = true) : Q ws t k u = true := by
  cases m with
  | zero => simp [Q] at h
  | succ m =>
    obtain ⟨k, rfl⟩ : ∃ j, k = j + 1 := ⟨k - 1, by omega⟩
    simp only [Q, List.any_eq_true] at h ⊢
    obtain ⟨x, h1, h2⟩ := h
    exact ⟨x, h1, R_mono (by omega) h2⟩
theorem R_Q {m u : Nat} (hu : u ≠ t) : R ws t m u = Q ws t m u := by
  induction m with
  | zero => simp [R, Q, hu]
  | succ m ih =>
    simp only [R]
    rw [ih]
    cases h : Q ws t m u with
    | false => rfl
    | true => rw [Bool.true_or, Q_mono (Nat.le_succ m) h]
theorem R_to {m : Nat} : R ws t m t = true := R_mono (Nat.zero_le m) (by simp [R])
theorem R_of_Q {m u : Nat} (h : Q ws t m u = true) : R ws t m u = true := by
  cases m with
  | zero => simp [Q] at h
  | succ m => simp only [R]; rw [show (nb ws u).any (R ws t m) = true from h, Bool.or_true]

theorem L_le {m u : Nat} : L ws t m u ≤ m := by
  induction m with
  | zero => simp [L]
  | succ m ih =>
    unfold L
    split
    · omega
    · split <;> omega
/-- What L says. -/
theorem L_spec (m u : Nat) : (L ws t m u = 0 ∧ Q ws t m u = false) ∨ (0 < L ws t m u ∧ Q ws t (L ws t m u) u = true ∧ ∀ k, k < L ws t m u → Q ws t k u = false) := by
  induction m with
  | zero => exact .inl ⟨rfl, rfl⟩
  | succ m ih =>
    unfold L
    rcases ih with ⟨h1, h2⟩ | ⟨h1, h2, h3⟩
    · rw [h1]
      simp only [ne_eq, not_true_eq_false, if_false]
      cases hq : Q ws t (m + 1) u with
      | false => exact .inl ⟨rfl, rfl⟩
      | true =>
        refine .inr ⟨by simp, by simpa using hq, fun k hk => ?_⟩
        simp only [if_true] at hk
        cases hk2 : Q ws t k u with
        | false => rfl
        | true => rw [Q_mono (by omega) hk2] at h2; cases h2
    · rw [if_pos (by omega)]
      exact .inr ⟨h1, h2, h3⟩
theorem L_pos {m u : Nat} (h : Q ws t m u = true) : 0 < L ws t m u := by
  rcases L_spec (ws := ws) (t := t) m u with ⟨h1, h2⟩ | ⟨h1, _⟩
  · rw [h] at h2; cases h2
  · exact h1
/-- One step of the rounds, as the program tests it. -/
theorem L_test {m u : Nat} (h : L ws t m u = 0) : Q ws t (m + 1) u = (nb ws u).any (fun x => if m = 0 then decide (x = t) else decide (L ws t m x = m)) := by
  by_cases hm : m = 0
  · subst hm
    simp only [Q, if_true]
    congr 1
  · simp only [Q, if_neg hm]
    have hq : Q ws t m u = false := by
      rcases L_spec (ws := ws) (t := t) m u with ⟨_, h2⟩ | ⟨h1, _⟩
      · exact h2
      · omega
    obtain ⟨j, rfl⟩ : ∃ j, m = j + 1 := ⟨m - 1, by omega⟩
    -- no neighbour comes to t in j steps
    have hno : ∀ x ∈ nb ws u, R ws t j x = false := by
      intro x hx
      cases hr : R ws t j x with
      | false => rfl
      | true =>
        have : Q ws t (j + 1) u = true := by
          simp only [Q, List.any_eq_true]; exact ⟨x, hx, hr⟩
        rw [this] at hq; cases hq
    rw [Bool.eq_iff_iff, List.any_eq_true, List.any_eq_true]
    constructor
    · rintro ⟨x, hx, hr⟩
      refine ⟨x, hx, ?_⟩
      have hne : x ≠ t := fun e => by rw [e] at hx; have := hno t hx; rw [R_to] at this; cases this
      rw [R_Q hne] at hr
      have h3 := hno x hx
      rw [R_Q hne] at h3
      rcases L_spec (ws := ws) (t := t) (j + 1) x with ⟨_, h2⟩ | ⟨h1, h2, h4⟩
      · rw [hr] at h2; cases h2
      · have hle := L_le (ws := ws) (t := t) (m := j + 1) (u := x)
        have : ¬ L ws t (j + 1) x ≤ j := fun hle2 => by rw [Q_mono hle2 h2] at h3; cases h3
        simp only [decide_eq_true_eq]; omega
    · rintro ⟨x, hx, hr⟩
      simp only [decide_eq_true_eq] at hr
      rcases L_spec (ws := ws) (t := t) (j + 1) x with ⟨h1, _⟩ | ⟨h1, h2, _⟩
      · omega
      · rw [hr] at h2
        exact ⟨x, hx, R_of_Q h2⟩
theorem L_step {m u : Nat} : L ws t (m + 1) u = if L ws t m u = 0 ∧ (nb ws u).any (fun x => if m = 0 then decide (x = t) else decide (L ws t m x = m)) = true then m + 1 else L ws t m u := by
  by_cases h : L ws t m u = 0
  · rw [← L_test h]
    conv => lhs; unfold L
    simp only [h, ne_eq, not_true_eq_false, if_false, true_and]
  · conv => lhs; unfold L
    rw [if_pos h, if_neg (fun e => h e.1)]
/-- A round's test does not mind what the same round wrote. -/
theorem L_same {m x : Nat} (hm : m ≠ 0) : (L ws t (m + 1) x = m) ↔ (L ws t m x = m) := by
  rw [L_step]
  by_cases h : L ws t m x = 0 ∧ (nb ws x).any (fun x => if m = 0 then decide (x = t) else decide (L ws t m x = m)) = true
  · rw [if_pos h]; omega
  · rw [if_neg h]

/-! All distances are less than the number of vertices. -/
def cntR (ws : List (List Int)) (t m : Nat) : Nat → Nat
  | 0 => 0
  | n + 1 => cntR ws t m n + (if R ws t m n = true then 1 else 0)
theorem cntR_le {m n : Nat} : cntR ws t m n ≤ n := by
  induction n with
  | zero => exact Nat.le_refl _
  | succ n ih => unfold cntR; split <;> omega
theorem cntR_mono {m n : Nat} : cntR ws t m n ≤ cntR ws t (m + 1) n := by
  induction n with
  | zero => exact Nat.le_refl _
  | succ n ih =>
    unfold cntR
    by_cases h : R ws t m n = true
    · rw [if_pos h, if_pos (R_mono1 h)]; omega
    · rw [if_neg h]; split <;> omega
theorem cntR_lt {m n u : Nat} (hu : u < n) (h : R ws t m u = false) (h2 : R ws t (m + 1) u = true) : cntR ws t m n < cntR ws t (m + 1) n := by
  induction n with
  | zero => omega
  | succ n ih =>
    unfold cntR
    by_cases hn : u = n
    · subst hn
      rw [if_neg (by simp [h]), if_pos h2]
      have := cntR_mono (ws := ws) (t := t) (m := m) (n := u)
      omega
    · have := ih (by omega)
      by_cases h3 : R ws t m n = true
      · rw [if_pos h3, if_pos (R_mono1 h3)]; omega
      · rw [if_neg h3]; split <;> omega
/-- The graph is closed: neighbours lie below n. -/
def Cl (ws : List (List Int)) : Prop := ∀ u x, x ∈ nb ws u → x < ws.length
theorem R_stable {m : Nat} (hc : Cl ws) (h : ∀ u, u < ws.length → R ws t (m + 1) u = true → R ws t m u = true) : ∀ k u, u < ws.length → R ws t (m + k) u = true → R ws t m u = true := by
  intro k
  induction k with
  | zero => exact fun u _ hu => hu
  | succ k ih =>
    intro u hlt hu
    have hu' : (R ws t (m + k) u || (nb ws u).any (R ws t (m + k))) = true := hu
    rw [Bool.or_eq_true] at hu'
    rcases hu' with hu' | hu'
    · exact ih u hlt hu'
    · rw [List.any_eq_true] at hu'
      obtain ⟨x, hx, hr⟩ := hu'
      have := ih x (hc u x hx) hr
      refine h u hlt ?_
      simp only [R, Bool.or_eq_true, List.any_eq_true]
      exact .inr ⟨x, hx, this⟩
theorem R_grow (hc : Cl ws) (ht : t < ws.length) : ∀ m, (∃ j, j ≤ m ∧ ∀ u, u < ws.length → R ws t (j + 1) u = true → R ws t j u = true) ∨ m + 2 ≤ cntR ws t (m + 1) ws.length := by
  intro m
  have h0 : 1 ≤ cntR ws t 0 ws.length := by
    have : ∀ n, t < n → 1 ≤ cntR ws t 0 n := by
      intro n
      induction n with
      | zero => intro h; omega
      | succ n ih =>
        intro h
        unfold cntR
        by_cases e : t = n
        · subst e
          rw [if_pos R_to]; omega
        · have := ih (by omega); omega
    exact this _ ht
  have step : ∀ j, (∀ u, u < ws.length → R ws t (j + 1) u = true → R ws t j u = true) ∨ cntR ws t j ws.length < cntR ws t (j + 1) ws.length := by
    intro j
    by_cases h : ∀ u, u < ws.length → R ws t (j + 1) u = true → R ws t j u = true
    · exact .inl h
    · obtain ⟨u, hu⟩ := Classical.not_forall.1 h
      obtain ⟨h1, h2⟩ := Classical.not_imp.1 hu
      obtain ⟨h2, h3⟩ := Classical.not_imp.1 h2
      exact .inr (cntR_lt h1 (by simpa using h3) h2)
  induction m with
  | zero =>
    rcases step 0 with h | h
    · exact .inl ⟨0, Nat.le_refl _, h⟩
    · exact .inr (by omega)
  | succ m ih =>
    rcases ih with ⟨j, h1, h2⟩ | h
    · exact .inl ⟨j, by omega, h2⟩
    · rcases step (m + 1) with h2 | h2
      · exact .inl ⟨m + 1, Nat.le_refl _, h2⟩
      · exact .inr (by omega)
theorem R_all (hc : Cl ws) (ht : t < ws.length) {m u : Nat} (hu : u < ws.length) (h : R ws t m u = true) : R ws t (ws.length - 1) u = true := by
  rcases R_grow hc ht (ws.length - 1) with ⟨j, h1, h2⟩ | h2
  · have : R ws t j u = true := by
      by_cases hj : m ≤ j
      · exact R_mono hj h
      · exact R_stable hc h2 (m - j) u hu (by rw [show j + (m - j) = m by omega]; exact h)
    exact R_mono h1 this
  · have := cntR_le (ws := ws) (t := t) (m := ws.length - 1 + 1) (n := ws.length)
    omega
theorem Q_all (hc : Cl ws) (ht : t < ws.length) {m u : Nat} (h : Q ws t m u = true) : Q ws t ws.length u = true := by
  cases m with
  | zero => simp [Q] at h
  | succ m =>
    simp only [Q, List.any_eq_true] at h
    obtain ⟨x, h1, h2⟩ := h
    have := R_all hc ht (hc u x h1) h2
    obtain ⟨n, hn⟩ : ∃ n, ws.length = n + 1 := ⟨ws.length - 1, by omega⟩
    rw [hn] at this ⊢
    simp only [Q, List.any_eq_true]
    exact ⟨x, h1, this⟩

/-- The distance as the program has it. -/
def D (ws : List (List Int)) (t u : Nat) : Nat := L ws t ws.length u
theorem D_spec (hc : Cl ws) (ht : t < ws.length) (u : Nat) : (D ws t u = 0 ∧ ∀ m, Q ws t m u = false) ∨ (0 < D ws t u ∧ Q ws t (D ws t u) u = true ∧ ∀ k, k < D ws t u → Q ws t k u = false) := by
  rcases L_spec (ws := ws) (t := t) ws.length u with ⟨h1, h2⟩ | h
  · refine .inl ⟨h1, fun m => ?_⟩
    cases hq : Q ws t m u with
    | false => rfl
    | true => rw [Q_all hc ht hq] at h2; cases h2
  · exact .inr h
/-- The distance as the reference has it: 0 at t itself, -1 where there is none. -/
def E (ws : List (List Int)) (t u : Nat) : Int := if u = t then 0 else if D ws t u = 0 then -1 else D ws t u
theorem E_iff (hc : Cl ws) (ht : t < ws.length) {u : Nat} {d : Nat} : E ws t u = d ↔ (R ws t d u = true ∧ ∀ m, m < d → R ws t m u = false) := by
  unfold E
  by_cases hu : u = t
  · subst hu
    rw [if_pos rfl]
    constructor
    · intro h
      have : d = 0 := by omega
      subst this
      exact ⟨R_to, fun m hm => by omega⟩
    · intro ⟨_, h2⟩
      by_cases hd : d = 0
      · omega
      · have := h2 0 (by omega); rw [R_to] at this; cases this
  · rw [if_neg hu]
    simp only [R_Q hu]
    rcases D_spec hc ht u with ⟨h1, h2⟩ | ⟨h1, h2, h3⟩
    · rw [if_pos h1]
      constructor
      · intro h; omega
      · intro ⟨h, _⟩; rw [h2] at h; cases h
    · rw [if_neg (by omega)]
      constructor
      · intro h
        have : D ws t u = d := by omega
        rw [← this]; exact ⟨h2, h3⟩
      · intro ⟨h4, h5⟩
        have a : ¬ d < D ws t u := fun hl => by rw [h3 d hl] at h4; cases h4
        have b : ¬ D ws t u < d := fun hl => by rw [h5 _ hl] at h2; cases h2
        omega
theorem E_neg (hc : Cl ws) (ht : t < ws.length) {u : Nat} : E ws t u < 0 ↔ ∀ m, R ws t m u = false := by
  unfold E
  by_cases hu : u = t
  · subst hu
    rw [if_pos rfl]
    constructor
    · intro h; omega
    · intro h; have := h 0; rw [R_to] at this; cases this
  · rw [if_neg hu]
    simp only [R_Q hu]
    rcases D_spec hc ht u with ⟨h1, h2⟩ | ⟨h1, h2, h3⟩
    · rw [if_pos h1]; exact ⟨fun _ => h2, fun _ => by omega⟩
    · rw [if_neg (by omega)]
      constructor
      · intro h; omega
      · intro h; rw [h] at h2; cases h2
theorem E_ge (u : Nat) : -1 ≤ E ws t u := by
  unfold E
  split
  · omega
  · split <;> omega

/-! The relaxing rounds. -/
def at' (f : List Int) (u : Nat) : Int := f[u]?.getD 0
structure Snd (ws : List (List Int)) (t : Nat) (f : List Int) : Prop where
  len : f.length = ws.length
  ok : ∀ u, u < ws.length → at' f u = -1 ∨ (0 ≤ at' f u ∧ R ws t (at' f u).toNat u = true)
def Cmp (ws : List (List Int)) (t r u : Nat) (f : List Int) : Prop := ∀ m, m ≤ r → R ws t m u = true → 0 ≤ at' f u ∧ at' f u ≤ m
/-- f' is f, or better. -/
def Btr (f f' : List Int) : Prop := ∀ u, 0 ≤ at' f u → 0 ≤ at' f' u ∧ at' f' u ≤ at' f u
theorem Btr.refl (f : List Int) : Btr f f := fun _ h => ⟨h, Int.le_refl _⟩
theorem Cmp.btr {r u : Nat} {f f' : List Int} (h : Cmp ws t r u f) (hb : Btr f f') : Cmp ws t r u f' := fun m hm hr => by
  obtain ⟨h1, h2⟩ := h m hm hr
  obtain ⟨h3, h4⟩ := hb u h1
  exact ⟨h3, by omega⟩
theorem at_set {f : List Int} {k : Nat} {d : Int} (hk : k < f.length) (u : Nat) : at' (f.set k d) u = if u = k then d else at' f u := by
  unfold at'
  by_cases h : u = k
  · subst h; simp [hk]
  · rw [if_neg h, List.getElem?_set_ne (by omega)]

/-- What holds within round r + 1, at vertex k, with i of its neighbours seen. -/
structure Mid (ws : List (List Int)) (t r k i : Nat) (f : List Int) : Prop where
  snd : Snd ws t f
  old : ∀ u, u < ws.length → Cmp ws t r u f
  new : ∀ u, u < k → Cmp ws t (r + 1) u f
  nbs : ∀ j x, j < i → (nb ws k)[j]? = some x → ∀ m, m ≤ r → R ws t m x = true → 0 ≤ at' f k ∧ at' f k ≤ m + 1

theorem Mid.relax {r k i x : Nat} {f : List Int} (hc : Cl ws) (hk : k < ws.length) (h : Mid ws t r k i f) (hx : (nb ws k)[i]? = some x) (hg : 0 ≤ at' f x ∧ (at' f k < 0 ∨ at' f x + 1 < at' f k)) :
    Mid ws t r k (i + 1) (f.set k (at' f x + 1)) := by
  have hlen : k < f.length := by rw [h.snd.len]; exact hk
  have hxm : x ∈ nb ws k := List.mem_of_getElem? hx
  have hxl := hc k x hxm
  have hb : Btr f (f.set k (at' f x + 1)) := by
    intro u hu
    rw [at_set hlen]
    split
    · rename_i e; subst e; omega
    · exact ⟨hu, Int.le_refl _⟩
  refine ⟨⟨by rw [List.length_set]; exact h.snd.len, fun u hu => ?_⟩, fun u hu => (h.old u hu).btr hb, fun u hu => (h.new u hu).btr hb, fun j y hj hy m hm hr => ?_⟩
  · rw [at_set hlen]
    split
    · rename_i e
      subst e
      right
      refine ⟨by omega, ?_⟩
      rcases h.snd.ok x hxl with h1 | ⟨_, h1⟩
      · omega
      · rw [show (at' f x + 1).toNat = (at' f x).toNat + 1 by omega]
        simp only [R, Bool.or_eq_true, List.any_eq_true]
        exact .inr ⟨x, hxm, h1⟩
    · exact h.snd.ok u hu
  · rw [at_set hlen, if_pos rfl]
    by_cases e : j = i
    · subst e
      rw [hx] at hy
      cases hy
      have := h.old x hxl m hm hr
      omega
    · have := h.nbs j y (by omega) hy m hm hr
      omega
theorem Mid.skip {r k i x : Nat} {f : List Int} (hc : Cl ws) (h : Mid ws t r k i f) (hx : (nb ws k)[i]? = some x) (hg : ¬ (0 ≤ at' f x ∧ (at' f k < 0 ∨ at' f x + 1 < at' f k))) : Mid ws t r k (i + 1) f := by
  refine ⟨h.snd, h.old, h.new, fun j y hj hy m hm hr => ?_⟩
  by_cases e : j = i
  · subst e
    rw [hx] at hy
    cases hy
    have := h.old x (hc k x (List.mem_of_getElem? hx)) m hm hr
    omega
  · exact h.nbs j y (by omega) hy m hm hr
theorem Mid.next {r k i : Nat} {f : List Int} (hk : k < ws.length) (h : Mid ws t r k i f) (hi : (nb ws k).length ≤ i) : Mid ws t r (k + 1) 0 f := by
  refine ⟨h.snd, h.old, fun u hu => ?_, fun j x hj => by omega⟩
  by_cases e : u = k
  · subst e
    intro m hm hr
    by_cases hm2 : m ≤ r
    · exact h.old u hk m hm2 hr
    · have : m = r + 1 := by omega
      subst this
      have hr' : (R ws t r u || (nb ws u).any (R ws t r)) = true := hr
      rw [Bool.or_eq_true] at hr'
      rcases hr' with hr' | hr'
      · have := h.old u hk r (Nat.le_refl _) hr'
        omega
      · rw [List.any_eq_true] at hr'
        obtain ⟨x, hx, hr'⟩ := hr'
        obtain ⟨j, hj, e⟩ := List.getElem_of_mem hx
        have := h.nbs j x (by omega) (by rw [List.getElem?_eq_getElem hj, e]) r (Nat.le_refl _) hr'
        omega
  · exact h.new u (by omega)
theorem Mid.round {r : Nat} {f : List Int} (h : Mid ws t r ws.length 0 f) : Mid ws t (r + 1) 0 0 f :=
  ⟨h.snd, fun u hu => h.new u hu, fun u hu => by omega, fun j x hj => by omega⟩
def far0 (ws : List (List Int)) (t : Nat) : List Int := (List.replicate ws.length (-1 : Int)).set t 0
theorem Mid.start (ht : t < ws.length) : Mid ws t 0 0 0 (far0 ws t) := by
  have ha : ∀ u, u < ws.length → at' (far0 ws t) u = if u = t then 0 else -1 := fun u hu => by
    unfold far0
    rw [at_set (by simpa using ht)]
    split
    · rfl
    · simp [at', hu]
  refine ⟨⟨by simp [far0], fun u hu => ?_⟩, fun u hu m hm hr => ?_, fun u hu => by omega, fun j x hj => by omega⟩
  · rw [ha u hu]
    split
    · rename_i e; subst e; exact .inr ⟨Int.le_refl _, R_to⟩
    · exact .inl rfl
  · have : m = 0 := by omega
    subst this
    simp only [R, decide_eq_true_eq] at hr
    rw [ha u hu, if_pos hr]
    exact ⟨Int.le_refl _, Int.le_refl _⟩
def farL (ws : List (List Int)) (t : Nat) : List Int := (List.range ws.length).map (E ws t)
theorem Mid.done (hc : Cl ws) (ht : t < ws.length) {f : List Int} (h : Mid ws t ws.length 0 0 f) : f = farL ws t := by
  apply List.ext_getElem
  · simp [farL, h.snd.len]
  · intro u h1 h2
    have hu : u < ws.length := by rw [← h.snd.len]; exact h1
    have hat : at' f u = f[u] := by unfold at'; rw [List.getElem?_eq_getElem h1]; rfl
    simp only [farL, List.getElem_map, List.getElem_range]
    rw [← hat]
    rcases h.snd.ok u hu with h3 | ⟨h3, h4⟩
    · rw [h3]
      have hneg : E ws t u < 0 := (E_neg hc ht).2 fun m => by
        cases hr : R ws t m u with
        | false => rfl
        | true =>
          have := h.old u hu (ws.length - 1) (by omega) (R_all hc ht hu hr)
          omega
      have := E_ge (ws := ws) (t := t) u
      omega
    · have h5 := h.old u hu (ws.length - 1) (by omega) (R_all hc ht hu h4)
      have : E ws t u = ((at' f u).toNat : Nat) := (E_iff hc ht).2 ⟨h4, fun m hm => by
        cases hr : R ws t m u with
        | false => rfl
        | true => have := h.old u hu m (by omega) hr; omega⟩
      omega

/-! The next vertex. -/
/-- The least of the numbers of which p holds; -1 where there is none: as the program finds it. -/
def leastG (p : Int → Bool) : Int → List Int → Int
  | b, [] => b
  | b, x :: xs => if p x && (decide (b < 0) || decide (x < b)) then leastG p x xs else leastG p b xs
def least (p : Int → Bool) (l : List Int) : Int := leastG p (-1) l
theorem leastG_spec (p : Int → Bool) : ∀ (l : List Int) (b : Int), (∀ x ∈ l, 0 ≤ x) → (b = -1 ∨ (0 ≤ b ∧ p b = true)) →
    (leastG p b l = -1 ∧ b = -1 ∧ ∀ x ∈ l, p x = false) ∨ (0 ≤ leastG p b l ∧ p (leastG p b l) = true ∧ (leastG p b l = b ∨ leastG p b l ∈ l) ∧ (b = -1 ∨ leastG p b l ≤ b) ∧ ∀ x ∈ l, p x = true → leastG p b l ≤ x)
  | [], b, _, hb => by
    unfold leastG
    rcases hb with hb | ⟨h1, h2⟩
    · exact .inl ⟨hb, hb, fun x hx => by cases hx⟩
    · exact .inr ⟨h1, h2, .inl rfl, .inr (Int.le_refl _), fun x hx => by cases hx⟩
  | x :: xs, b, hp, hb => by
    unfold leastG
    have hx := hp x (by simp)
    have hxs : ∀ y ∈ xs, 0 ≤ y := fun y hy => hp y (by simp [hy])
    by_cases hc : (p x && (decide (b < 0) || decide (x < b))) = true
    · rw [if_pos hc]
      simp only [Bool.and_eq_true, Bool.or_eq_true, decide_eq_true_eq] at hc
      rcases leastG_spec p xs x hxs (.inr ⟨hx, hc.1⟩) with ⟨_, h2, _⟩ | ⟨h1, h2, h3, h4, h5⟩
      · omega
      · refine .inr ⟨h1, h2, .inr ?_, ?_, fun y hy hpy => ?_⟩
        · rcases h3 with h3 | h3
          · rw [h3]; simp
          · simp [h3]
        · rcases h4 with h4 | h4 <;> omega
        · rcases List.mem_cons.1 hy with e | e
          · rw [e]; omega
          · exact h5 y e hpy
    · rw [if_neg hc]
      simp only [Bool.and_eq_true, Bool.or_eq_true, decide_eq_true_eq] at hc
      rcases leastG_spec p xs b hxs hb with ⟨h1, h2, h3⟩ | ⟨h1, h2, h3, h4, h5⟩
      · refine .inl ⟨h1, h2, fun y hy => ?_⟩
        rcases List.mem_cons.1 hy with e | e
        · rw [e]
          cases hq : p x with
          | false => rfl
          | true => exact absurd ⟨hq, .inl (by omega)⟩ hc
        · exact h3 y e
      · refine .inr ⟨h1, h2, h3.imp id (fun h => by simp [h]), h4, fun y hy hpy => ?_⟩
        rcases List.mem_cons.1 hy with e | e
        · rw [e] at hpy ⊢
          have : ¬ (b < 0 ∨ x < b) := fun h => hc ⟨hpy, h⟩
          omega
        · exact h5 y e hpy
theorem least_spec (p : Int → Bool) (l : List Int) (h : ∀ x ∈ l, 0 ≤ x) : (least p l = -1 ∧ ∀ x ∈ l, p x = false) ∨ (0 ≤ least p l ∧ p (least p l) = true ∧ least p l ∈ l ∧ ∀ x ∈ l, p x = true → least p l ≤ x) := by
  rcases leastG_spec p l (-1) h (.inl rfl) with ⟨h1, _, h3⟩ | ⟨h1, h2, h3, _, h5⟩
  · exact .inl ⟨h1, h3⟩
  · refine .inr ⟨h1, h2, ?_, h5⟩
    rcases h3 with h3 | h3
    · have e : least p l = -1 := h3
      have : (0 : Int) ≤ least p l := h1
      omega
    · exact h3
/-- The reference's: the least of those of the least value that is not negative. -/
def nextG (e : Int → Int) : Int → List Int → Int
  | b, [] => b
  | b, x :: xs => if decide (e x ≥ 0) && (decide (b < 0) || decide (e x < e b) || (decide (e x = e b) && decide (x < b))) then nextG e x xs else nextG e b xs
def next (e : Int → Int) (l : List Int) : Int := nextG e (-1) l
theorem nextG_spec (e : Int → Int) : ∀ (l : List Int) (b : Int), (∀ x ∈ l, 0 ≤ x) → (b = -1 ∨ (0 ≤ b ∧ e b ≥ 0)) →
    (nextG e b l = -1 ∧ b = -1 ∧ ∀ x ∈ l, e x < 0) ∨ (0 ≤ nextG e b l ∧ e (nextG e b l) ≥ 0 ∧ (nextG e b l = b ∨ nextG e b l ∈ l) ∧ (b = -1 ∨ e (nextG e b l) < e b ∨ (e (nextG e b l) = e b ∧ nextG e b l ≤ b)) ∧ ∀ x ∈ l, e x ≥ 0 → e (nextG e b l) < e x ∨ (e (nextG e b l) = e x ∧ nextG e b l ≤ x))
  | [], b, _, hb => by
    unfold nextG
    rcases hb with hb | ⟨h1, h2⟩
    · exact .inl ⟨hb, hb, fun x hx => by cases hx⟩
    · exact .inr ⟨h1, h2, .inl rfl, .inr (.inr ⟨rfl, Int.le_refl _⟩), fun x hx => by cases hx⟩
  | x :: xs, b, hp, hb => by
    unfold nextG
    have hx := hp x (by simp)
    have hxs : ∀ y ∈ xs, 0 ≤ y := fun y hy => hp y (by simp [hy])
    by_cases hc : (decide (e x ≥ 0) && (decide (b < 0) || decide (e x < e b) || (decide (e x = e b) && decide (x < b)))) = true
    · rw [if_pos hc]
      simp only [Bool.and_eq_true, Bool.or_eq_true, decide_eq_true_eq] at hc
      rcases nextG_spec e xs x hxs (.inr ⟨hx, hc.1⟩) with ⟨_, h2, _⟩ | ⟨h1, h2, h3, h4, h5⟩
      · omega
      · refine .inr ⟨h1, h2, .inr ?_, ?_, fun y hy hpy => ?_⟩
        · rcases h3 with h3 | h3
          · rw [h3]; simp
          · simp [h3]
        · omega
        · rcases List.mem_cons.1 hy with e' | e'
          · rw [e']; omega
          · exact h5 y e' hpy
    · rw [if_neg hc]
      simp only [Bool.and_eq_true, Bool.or_eq_true, decide_eq_true_eq] at hc
      rcases nextG_spec e xs b hxs hb with ⟨h1, h2, h3⟩ | ⟨h1, h2, h3, h4, h5⟩
      · refine .inl ⟨h1, h2, fun y hy => ?_⟩
        rcases List.mem_cons.1 hy with e' | e'
        · rw [e']
          exact Int.not_le.1 fun h => hc ⟨h, .inl (.inl (by omega))⟩
        · exact h3 y e'
      · refine .inr ⟨h1, h2, h3.imp id (fun h => by simp [h]), h4, fun y hy hpy => ?_⟩
        rcases List.mem_cons.1 hy with e' | e'
        · rw [e'] at hpy ⊢
          have : ¬ ((b < 0 ∨ e x < e b) ∨ (e x = e b ∧ x < b)) := fun h => hc ⟨hpy, h⟩
          omega
        · exact h5 y e' hpy
theorem next_spec (e : Int → Int) (l : List Int) (h : ∀ x ∈ l, 0 ≤ x) : (next e l = -1 ∧ ∀ x ∈ l, e x < 0) ∨ (0 ≤ next e l ∧ e (next e l) ≥ 0 ∧ next e l ∈ l ∧ ∀ x ∈ l, e x ≥ 0 → e (next e l) < e x ∨ (e (next e l) = e x ∧ next e l ≤ x)) := by
  rcases nextG_spec e l (-1) h (.inl rfl) with ⟨h1, _, h3⟩ | ⟨h1, h2, h3, _, h5⟩
  · exact .inl ⟨h1, h3⟩
  · refine .inr ⟨h1, h2, ?_, h5⟩
    rcases h3 with h3 | h3
    · have e' : next e l = -1 := h3
      have : (0 : Int) ≤ next e l := h1
      omega
    · exact h3
def row (ws : List (List Int)) (u : Nat) : List Int := (ws[u]?).getD []
def dI (ws : List (List Int)) (t : Nat) (x : Int) : Int := D ws t x.toNat
def eI (ws : List (List Int)) (t : Nat) (x : Int) : Int := E ws t x.toNat
def nx (ws : List (List Int)) (t left u : Nat) : Int := least (fun x => decide (dI ws t x = left)) (row ws u)
theorem mem_nb {u : Nat} {x : Int} (h : x ∈ row ws u) : x.toNat ∈ nb ws u := by
  unfold nb
  exact List.mem_map.2 ⟨x, h, rfl⟩
theorem nb_mem {u : Nat} {y : Nat} (h : y ∈ nb ws u) : ∃ x, x ∈ row ws u ∧ x.toNat = y := by
  unfold nb at h
  exact List.mem_map.1 h
/-- All numbers are not negative. -/
def Nn (ws : List (List Int)) : Prop := ∀ u x, x ∈ row ws u → 0 ≤ x
/-- The next vertex of the reference is the program's, where the distance is left + 1. -/
theorem next_eq (hc : Cl ws) (hn : Nn ws) (ht : t < ws.length) {u left : Nat} (hl : 0 < left) (hd : D ws t u = left + 1) :
    next (eI ws t) (row ws u) = nx ws t left u ∧ 0 ≤ nx ws t left u ∧ (nx ws t left u).toNat < ws.length ∧ D ws t (nx ws t left u).toNat = left ∧ (nx ws t left u).toNat ≠ t := by
  rcases D_spec hc ht u with ⟨h1, _⟩ | ⟨_, h2, h3⟩
  · omega
  rw [hd] at h2 h3
  have hno : ∀ x ∈ row ws u, ∀ m, m < left → R ws t m x.toNat = false := by
    intro x hx m hm
    cases hr : R ws t m x.toNat with
    | false => rfl
    | true =>
      have : Q ws t (m + 1) u = true := by
        simp only [Q, List.any_eq_true]; exact ⟨_, mem_nb hx, hr⟩
      rw [h3 (m + 1) (by omega)] at this
      cases this
  have hne : ∀ x ∈ row ws u, x.toNat ≠ t := fun x hx e => by
    have := hno x hx 0 hl
    rw [e, R_to] at this; cases this
  have hE : ∀ x ∈ row ws u, eI ws t x = if dI ws t x = 0 then -1 else dI ws t x := fun x hx => by
    unfold eI dI E
    rw [if_neg (hne x hx)]
    by_cases h : D ws t x.toNat = 0
    · rw [if_pos h, if_pos (by omega)]
    · rw [if_neg h, if_neg (by omega)]
  have hge : ∀ x ∈ row ws u, eI ws t x < 0 ∨ (left : Int) ≤ eI ws t x := fun x hx => by
    by_cases h : eI ws t x < 0
    · exact .inl h
    · right
      apply Int.not_lt.1
      intro hlt
      have h5 : E ws t x.toNat = ((eI ws t x).toNat : Nat) := by
        have : E ws t x.toNat = eI ws t x := rfl
        omega
      have := ((E_iff hc ht).1 h5).1
      rw [hno x hx _ (by omega)] at this
      cases this
  obtain ⟨x0, hx0, hx0e⟩ : ∃ x ∈ row ws u, eI ws t x = left := by
    simp only [Q, List.any_eq_true] at h2
    obtain ⟨y, hy, hr⟩ := h2
    obtain ⟨x, hx, rfl⟩ := nb_mem hy
    exact ⟨x, hx, (E_iff hc ht).2 ⟨hr, fun m hm => hno x hx m hm⟩⟩
  have hd0 : dI ws t x0 = left := by
    have := hE x0 hx0
    split at this <;> omega
  have A := least_spec (fun x => decide (dI ws t x = left)) (row ws u) (hn u)
  have B := next_spec (eI ws t) (row ws u) (hn u)
  rcases A with ⟨_, a2⟩ | ⟨a1, a2, a3, a4⟩
  · have := a2 x0 hx0
    simp [hd0] at this
  rcases B with ⟨_, b2⟩ | ⟨b1, b2, b3, b4⟩
  · have := b2 x0 hx0
    omega
  have a2' : dI ws t (nx ws t left u) = left := of_decide_eq_true a2
  have ha3 : nx ws t left u ∈ row ws u := a3
  have e1 : eI ws t (next (eI ws t) (row ws u)) = left := by
    have h1 := b4 x0 hx0 (by omega)
    have h2 := hge _ b3
    omega
  have e2 : dI ws t (next (eI ws t) (row ws u)) = left := by
    have := hE _ b3
    split at this <;> omega
  have e3 : eI ws t (nx ws t left u) = left := by
    rw [hE _ ha3, a2', if_neg (by omega)]
  have l1 : nx ws t left u ≤ next (eI ws t) (row ws u) := a4 _ b3 (by simpa using e2)
  have l2 : next (eI ws t) (row ws u) ≤ nx ws t left u := by
    have := b4 _ ha3 (by omega)
    omega
  refine ⟨by omega, a1, hc u _ (mem_nb ha3), ?_, hne _ ha3⟩
  have : dI ws t (nx ws t left u) = (D ws t (nx ws t left u).toNat : Int) := rfl
  omega
/-- At distance one the reference's next is t. -/
theorem next_one (hc : Cl ws) (hn : Nn ws) (ht : t < ws.length) {u : Nat} (hd : D ws t u = 1) : next (eI ws t) (row ws u) = (t : Int) := by
  rcases D_spec hc ht u with ⟨h1, _⟩ | ⟨_, h2, h3⟩
  · omega
  rw [hd] at h2
  simp only [Q, List.any_eq_true] at h2
  obtain ⟨y, hy, hr⟩ := h2
  simp only [R, decide_eq_true_eq] at hr
  obtain ⟨x, hx, hxe⟩ := nb_mem hy
  have hx0 := hn u x hx
  have hxt : x = (t : Int) := by omega
  rcases next_spec (eI ws t) (row ws u) (hn u) with ⟨_, b2⟩ | ⟨b1, b2, b3, b4⟩
  · have := b2 x hx
    rw [hxt] at this
    have e : eI ws t (t : Int) = 0 := by unfold eI E; simp
    omega
  · have e : eI ws t x = 0 := by rw [hxt]; unfold eI E; simp
    have := b4 x hx (by omega)
    have e0 : eI ws t (next (eI ws t) (row ws u)) = 0 := by omega
    have h5 : E ws t (next (eI ws t) (row ws u)).toNat = ((0 : Nat) : Int) := e0
    have := ((E_iff hc ht).1 h5).1
    simp only [R, decide_eq_true_eq] at this
    omega
/-- Where the program finds no way the reference has no next. -/
theorem next_none (hc : Cl ws) (hn : Nn ws) (ht : t < ws.length) {u : Nat} : next (eI ws t) (row ws u) < 0 ↔ D ws t u = 0 := by
  rcases D_spec hc ht u with ⟨h1, h2⟩ | ⟨h1, h2, h3⟩
  · refine ⟨fun _ => h1, fun _ => ?_⟩
    rcases next_spec (eI ws t) (row ws u) (hn u) with ⟨b1, _⟩ | ⟨b1, b2, b3, b4⟩
    · omega
    · exfalso
      have h5 : E ws t (next (eI ws t) (row ws u)).toNat = ((eI ws t (next (eI ws t) (row ws u))).toNat : Nat) := by
        have : E ws t (next (eI ws t) (row ws u)).toNat = eI ws t (next (eI ws t) (row ws u)) := rfl
        omega
      have h6 := ((E_iff hc ht).1 h5).1
      have : Q ws t ((eI ws t (next (eI ws t) (row ws u))).toNat + 1) u = true := by
        simp only [Q, List.any_eq_true]; exact ⟨_, mem_nb b3, h6⟩
      rw [h2] at this; cases this
  · refine ⟨fun h => ?_, fun h => by omega⟩
    exfalso
    by_cases h5 : D ws t u = 1
    · rw [next_one hc hn ht h5] at h; omega
    · have := next_eq hc hn ht (u := u) (left := D ws t u - 1) (by omega) (by omega)
      omega
/-- The ring from u on. -/
def ringG (ws : List (List Int)) (t : Nat) : Nat → Nat → List Int
  | 0, _ => []
  | l + 1, u => nx ws t (l + 1) u :: ringG ws t l (nx ws t (l + 1) u).toNat
def ring (ws : List (List Int)) (t : Nat) : List Int := (t : Int) :: ringG ws t (D ws t t - 1) t
end
end Go.FR
