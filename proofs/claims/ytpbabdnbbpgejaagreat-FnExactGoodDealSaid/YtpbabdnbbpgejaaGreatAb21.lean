/-
  Binary search over a list; objects that are given up at an end.
  No condition: definitions and lemmas over any program.
-/
import Derived.Test.YtpbabdnbbpgejaaGreatM3
namespace Go.Ab
set_option linter.unusedVariables false

/-- Where the search of slices.BinarySearchFunc ends, from the bounds i and j. -/
def bsGo {α : Type} (c : α → Int) (xs : List α) (i j : Nat) : Nat :=
  if h : i < j then
    match xs[(i + j) / 2]? with
    | some x => if c x < 0 then bsGo c xs ((i + j) / 2 + 1) j else bsGo c xs i ((i + j) / 2)
    | none => i
  else i
termination_by j - i
decreasing_by all_goals omega
section
variable {α : Type} {c : α → Int} {xs : List α} {i j : Nat} {x : α}
theorem bsGo_lt (h : i < j) (hx : xs[(i + j) / 2]? = some x) (hc : c x < 0) : bsGo c xs i j = bsGo c xs ((i + j) / 2 + 1) j := by
  rw [bsGo, dif_pos h, hx]
  simp only [if_pos hc]
theorem bsGo_ge (h : i < j) (hx : xs[(i + j) / 2]? = some x) (hc : ¬ c x < 0) : bsGo c xs i j = bsGo c xs i ((i + j) / 2) := by
  rw [bsGo, dif_pos h, hx]
  simp only [if_neg hc]
theorem bsGo_end (h : ¬ i < j) : bsGo c xs i j = i := by rw [bsGo, dif_neg h]
def bsPos (c : α → Int) (xs : List α) : Nat := bsGo c xs 0 xs.length
def bsHit (c : α → Int) (xs : List α) : Bool := match xs[bsPos c xs]? with | some x => c x == 0 | none => false
theorem bsHit_at (hB : bsPos c xs = i) (hx : xs[i]? = some x) : bsHit c xs = (c x == 0) := by
  unfold bsHit; rw [hB, hx]
theorem bsHit_end (hB : bsPos c xs = i) (hx : ¬ i < xs.length) : bsHit c xs = false := by
  unfold bsHit; rw [hB, List.getElem?_eq_none (by omega)]
theorem bsPos_le : bsPos c xs ≤ xs.length := by
  unfold bsPos
  have : ∀ d i j, j - i ≤ d → i ≤ j → j ≤ xs.length → bsGo c xs i j ≤ xs.length := by
    intro d
    induction d with
    | zero => intro i j h1 h2 h3; rw [bsGo_end (by omega)]; omega
    | succ d ih =>
      intro i j h1 h2 h3
      by_cases hlt : i < j
      · have hx : xs[(i + j) / 2]? = some xs[(i + j) / 2] := List.getElem?_eq_getElem (by omega)
        by_cases hc : c xs[(i + j) / 2] < 0
        · rw [bsGo_lt hlt hx hc]; exact ih _ _ (by omega) (by omega) h3
        · rw [bsGo_ge hlt hx hc]; exact ih _ _ (by omega) (by omega) (by omega)
      · rw [bsGo_end hlt]; omega
  exact this _ 0 _ (Nat.le_refl _) (Nat.zero_le _) (Nat.le_refl _)
/-- In a list that rises, the search ends at the first element that is not below. -/
theorem bsGo_of (m : Nat) (hm : m ≤ xs.length) (h1 : ∀ k x, k < m → xs[k]? = some x → c x < 0) (h2 : ∀ k x, m ≤ k → xs[k]? = some x → ¬ c x < 0) : ∀ d i j, j - i ≤ d → i ≤ m → m ≤ j → j ≤ xs.length → bsGo c xs i j = m := by
  intro d
  induction d with
  | zero => intro i j h3 h4 h5 h6; rw [bsGo_end (by omega)]; omega
  | succ d ih =>
    intro i j h3 h4 h5 h6
    by_cases hlt : i < j
    · have hx : xs[(i + j) / 2]? = some xs[(i + j) / 2] := List.getElem?_eq_getElem (by omega)
      by_cases hc : c xs[(i + j) / 2] < 0
      · rw [bsGo_lt hlt hx hc]
        refine ih _ _ (by omega) ?_ h5 h6
        by_cases hle : m ≤ (i + j) / 2
        · exact absurd hc (h2 _ _ hle hx)
        · omega
      · rw [bsGo_ge hlt hx hc]
        refine ih _ _ (by omega) h4 ?_ (by omega)
        by_cases hle : (i + j) / 2 < m
        · exact absurd (h1 _ _ hle hx) hc
        · omega
    · rw [bsGo_end hlt]; omega
theorem bsPos_of (m : Nat) (hm : m ≤ xs.length) (h1 : ∀ k x, k < m → xs[k]? = some x → c x < 0) (h2 : ∀ k x, m ≤ k → xs[k]? = some x → ¬ c x < 0) : bsPos c xs = m :=
  bsGo_of m hm h1 h2 _ 0 _ (Nat.le_refl _) (Nat.zero_le _) hm (Nat.le_refl _)
end

theorem mid_eq (i j : Nat) (h : i + j ≤ 18446744073709551614) : IntKind.i64.wrap ((IntKind.u64.wrap (IntKind.i64.wrap ((i : Int) + (j : Int)))).fdiv (2 ^ (min (1 : Int).toNat IntKind.u64.bits))) = (((i + j) / 2 : Nat) : Int) := by
  have hu : ∀ e : Int, IntKind.u64.wrap e = e % 18446744073709551616 := by
    intro e
    unfold IntKind.wrap
    simp [IntKind.bits, IntKind.signed]
  have hp : ((2 : Int) ^ (min (1 : Int).toNat IntKind.u64.bits)) = 2 := by
    have : min (1 : Int).toNat IntKind.u64.bits = 1 := by rfl
    rw [this]; rfl
  rw [hp, hu, i64_wrap_eq, i64_wrap_eq, Int.fdiv_eq_ediv_of_nonneg _ (by omega)]
  omega

theorem mid_next (i j : Nat) (h : i + j ≤ 18446744073709551614) (h2 : (i + j) / 2 < 9223372036854775807) : IntKind.i64.wrap (IntKind.i64.wrap ((IntKind.u64.wrap (IntKind.i64.wrap ((i : Int) + (j : Int)))).fdiv (2 ^ (min (1 : Int).toNat IntKind.u64.bits))) + 1) = (((i + j) / 2 + 1 : Nat) : Int) := by
  rw [mid_eq i j h, i64_wrap_eq]
  omega

theorem one_lenC {L : List (List AV)} {e : List AV} {n : Nat} (hL : L = [e]) (he : e.length = n) : ∀ z ∈ L, z.length = n := by
  subst hL
  intro z hz
  simp at hz
  rw [hz]
  exact he
theorem app_boundC {L M : List (List AV)} {b : Nat} (hM : M.length = 1) (hL : L.length ≤ 2097152) (hb : b ≤ 64) : L.length + M.length ≤ 70368744177664 ∧ (L.length + M.length) * b ≤ 140737488355328 := by
  rw [hM]
  refine ⟨by omega, ?_⟩
  have : (L.length + 1) * b ≤ (L.length + 1) * 64 := Nat.mul_le_mul_left _ hb
  omega

/-! Objects given up. -/
theorem St.le_frz (s : St) (ids : List Nat) : s.le (frzIds s ids) := by
  intro F w0 gv a w ⟨hdr, h⟩
  exact ⟨hdr, (frzIds_ok ids s h).1⟩
theorem OutA_frz {P : Program} {sh : Bool} {rs : List ResultVar} {r : AV} {os : List AObj} {s : St} (ids : List Nat) (h : OutA P sh rs r os (frzIds s ids)) : OutA P sh rs r os s :=
  OutA_le (St.le_frz s ids) h
theorem Loop_frz {body : (Exit → St → Prop) → St → Prop} {K : Exit → St → Prop} {s : St} (ids : List Nat) (h : Loop body K (frzIds s ids)) : Loop body K s := by
  unfold Loop at h ⊢
  obtain ⟨J, I, m, j0, h0, hb⟩ := h
  exact ⟨J, I, m, j0, St.le_trans (St.le_frz s ids) h0, hb⟩
theorem Again_frz {J : Type} {p : J → Prop} {mods : J → List (Nat × AV)} {omods : J → List (Nat × AObj)} {m : J → Nat} {j : J} {el : List (Nat × AV)} {ol : List (Nat × AObj)} {z n : Nat} {g : List AV} {s : St} (ids : List Nat) (h : Again p mods omods m j el ol z n g (frzIds s ids)) : Again p mods omods m j el ol z n g s :=
  Again_le (St.le_frz s ids) h
end Go.Ab
