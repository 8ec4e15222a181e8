/-
  A nil slice as an empty list that is only read.
  No condition: definitions and lemmas over any program.
-/
import Derived.Test.YtpbabdnbbpgejaaGreatAb22
namespace Go.Ab
set_option linter.unusedVariables false

theorem VR_nilS {c : Ctx} {v : Value} (h : VR c .nil v) : VR c (.sl []) v := by
  unfold VR at h
  obtain ⟨base, rfl⟩ := h
  unfold VR RR
  exact ⟨base, 0, rfl, Nat.le_refl _, .inl rfl⟩
theorem St.le_nilS {e : Nat → AV} {z : Nat} {o : Nat → Option AObj} {n : Nat} {g : List AV} (t : Nat) (ht : e t = .nil) : St.le ⟨e, z, o, n, g⟩ ⟨upd t (.sl []) e, z, o, n, g⟩ := by
  intro F w0 gv a w ⟨hdr, h⟩
  refine ⟨hdr, fun t' => ?_, h.sz, h.defers, h.gh, h.objs, h.dis, h.below, h.free⟩
  rw [upd_eq]
  by_cases e1 : t' = t
  · subst e1
    have hv := h.env t'
    have ht2 : St.env ⟨e, z, o, n, g⟩ t' = .nil := ht
    rw [ht2] at hv
    show VR _ (if t' = t' then AV.sl [] else e t') _
    rw [if_pos rfl]
    exact VR_nilS (c := St.ctx ⟨e, z, o, n, g⟩ F w hdr) hv
  · show VR _ (if t' = t then AV.sl [] else e t') _
    rw [if_neg e1]
    exact h.env t'
theorem Loop_nilS {body : (Exit → St → Prop) → St → Prop} {K : Exit → St → Prop} {e : Nat → AV} {z : Nat} {o : Nat → Option AObj} {n : Nat} {g : List AV} (t : Nat) (ht : e t = .nil)
    (h : Loop body K ⟨upd t (.sl []) e, z, o, n, g⟩) : Loop body K ⟨e, z, o, n, g⟩ := by
  unfold Loop at h ⊢
  obtain ⟨J, I, m, j0, h0, hb⟩ := h
  exact ⟨J, I, m, j0, St.le_trans (St.le_nilS t ht) h0, hb⟩
theorem OutA_nilS {P : Program} {sh : Bool} {rs : List ResultVar} {r : AV} {os : List AObj} {e : Nat → AV} {z : Nat} {o : Nat → Option AObj} {n : Nat} {g : List AV} (t : Nat) (ht : e t = .nil)
    (h : OutA P sh rs r os ⟨upd t (.sl []) e, z, o, n, g⟩) : OutA P sh rs r os ⟨e, z, o, n, g⟩ := OutA_le (St.le_nilS t ht) h

theorem RR_nilS {w : World} {ro : Nat → Prop} {v : Value} (h : RR w ro .nil v) : RR w ro (.sl []) v := by
  unfold RR at h
  obtain ⟨base, rfl⟩ := h
  unfold RR
  exact ⟨base, 0, rfl, Nat.le_refl _, .inl rfl⟩
/-- A nil slice for an empty list among the arguments. -/
theorem PC.nil2 {P : Program} {sh : Bool} {f : Nat} {x r : AV} {os : List AObj} (h : PC P sh f [x, .sl []] r os) : PC P sh f [x, .nil] r os := by
  refine ⟨fun w R vals hR hv => h.run w R vals hR ?_⟩
  match vals, hv with
  | [a, b], hv =>
    unfold LR at hv
    have h2 := hv.2
    unfold LR at h2
    unfold LR
    refine ⟨hv.1, ?_⟩
    unfold LR
    exact ⟨RR_nilS h2.1, h2.2⟩
  | [], hv => unfold LR at hv; exact hv.elim
  | [_], hv => unfold LR at hv; have := hv.2; unfold LR at this; exact this.elim
  | _ :: _ :: _ :: _, hv =>
    unfold LR at hv
    have h2 := hv.2
    unfold LR at h2
    have h3 := h2.2
    unfold LR at h3
    exact h3.elim
theorem app_bound2 {L M : List (List AV)} {b : Nat} (h : L.length + M.length ≤ 2097152) (hb : b ≤ 64) : L.length + M.length ≤ 70368744177664 ∧ (L.length + M.length) * b ≤ 140737488355328 := by
  refine ⟨by omega, ?_⟩
  have : (L.length + M.length) * b ≤ (L.length + M.length) * 64 := Nat.mul_le_mul_left _ hb
  omega
theorem ix_at {α : Type} {f : α → List AV} {xs : List α} {n : Int} {m : Nat} {x : α} {Q : List AV → Prop} (e : n = (m : Int)) (hx : xs[m]? = some x) (hQ : Q (f x)) : 0 ≤ n ∧ ∃ y, (xs.map f)[n.toNat]? = some y ∧ Q y := by
  subst e
  exact ⟨by omega, f x, by simp [hx], hQ⟩
theorem ix_re {α : Type} {f : α → List AV} {xs : List α} {n : Int} {x : α} {Q : List AV → Prop} (h0 : 0 ≤ n) (hx : xs[n.toNat]? = some x) (hQ : Q (f x)) : 0 ≤ n ∧ ∃ y, (xs.map f)[n.toNat]? = some y ∧ Q y :=
  ⟨h0, f x, by simp [hx], hQ⟩
theorem or_ff {a b : Bool} (h : a = false) (h2 : b = false) : (a || b) = false := by rw [h, h2]; rfl
theorem or_t1 {a b : Bool} (h : a = true) : (a || b) = true := by rw [h]; rfl
theorem or_t2 {a b : Bool} (h : b = true) : (a || b) = true := by rw [h, Bool.or_true]
theorem idxF_lt {α : Type} {q : α → Bool} : ∀ {xs : List α} {k : Nat} {n : Int}, idxF q k xs = n → 0 ≤ n → ∃ x, xs[n.toNat - k]? = some x ∧ q x = true ∧ (k : Int) ≤ n
  | [], k, n, h, hn => by unfold idxF at h; omega
  | x :: xs, k, n, h, hn => by
    unfold idxF at h
    by_cases hq : q x = true
    · rw [if_pos hq] at h
      subst h
      refine ⟨x, ?_, hq, by omega⟩
      have : (k : Int).toNat - k = 0 := by simp
      rw [this]; rfl
    · rw [if_neg hq] at h
      obtain ⟨y, h1, h2, h3⟩ := idxF_lt (xs := xs) (k := k + 1) h hn
      refine ⟨y, ?_, h2, by omega⟩
      have : n.toNat - k = (n.toNat - (k + 1)) + 1 := by omega
      rw [this]
      simpa using h1
end Go.Ab
