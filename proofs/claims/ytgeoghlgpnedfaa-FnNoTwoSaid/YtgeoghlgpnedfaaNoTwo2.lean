/-
  No two nodes hold a lease: the plain law of the lease table.
  No condition.
-/
import Derived.Test.YtgeoghlgpnedfaaNoTwo1
namespace Go.Proofs.Ytgeoghlgpnedfaa
open Go.Ab
set_option linter.unusedSimpArgs false
set_option maxRecDepth 20000
set_option linter.unusedVariables false

def apart (t : Int) (a b : LeaseT) : Prop := ¬ a.Who = b.Who → a.Until < t
def invW (w : WatchT) : Prop := okWatch w = true ∧ w.Given.Pairwise (apart w.True)
theorem span_lo {w : WatchT} {who : Int} (hg : okWatch w = true) : (spanAt w who).Low ≤ w.True ∧ w.True ≤ (spanAt w who).High := by
  have key : ∀ c ∈ w.Clocks, -5 ≤ c.Off ∧ c.Off ≤ 5 := by
    intro c hc
    simp only [okWatch, Bool.and_eq_true] at hg
    have := List.all_eq_true.1 hg.1.1.2.2 c hc
    exact inB_le this
  have h2 : -5 ≤ ((w.Clocks[who.toNat]?).getD ⟨0⟩).Off ∧ ((w.Clocks[who.toNat]?).getD ⟨0⟩).Off ≤ 5 := by
    cases h : w.Clocks[who.toNat]? with
    | none => simp
    | some c => exact key c (List.mem_of_getElem? h)
  unfold spanAt spanOf
  constructor
  · show w.True + _ - 5 ≤ _
    omega
  · show _ ≤ w.True + _ + 5
    omega
theorem apart_mono {t t' : Int} {l : List LeaseT} (h : l.Pairwise (apart t)) (ht : t ≤ t') : l.Pairwise (apart t') := h.imp fun h e => Int.lt_of_lt_of_le (h e) ht
theorem inv_ask {w : WatchT} {who long : Int} (h : invW w) (hb : okAsk w who long = true) : invW (askW w who long) := by
  unfold okAsk at hb
  simp only [Bool.and_eq_true] at hb
  refine ⟨hb.2, ?_⟩
  show (w.Given ++ [_]).Pairwise (apart w.True)
  rw [List.pairwise_append]
  refine ⟨h.2, by simp, fun a ha b hb2 => ?_⟩
  rw [List.mem_singleton] at hb2
  subst hb2
  intro hne
  have hf := hb.1.2
  unfold free at hf
  rw [Bool.not_eq_true', List.any_eq_false] at hf
  have h1 := hf a ha
  unfold inWay at h1
  simp only [Bool.and_eq_true, Bool.not_eq_true', decide_eq_false_iff_not, decide_eq_true_eq, not_and, Int.not_le] at h1
  have h2 := h1 hne
  have h3 := (span_lo (who := who) h.1).1
  omega
theorem inv_pass {w : WatchT} {n : Int} (h : invW w) (hb : okPass w n = true) : invW (passW w n) := by
  unfold okPass at hb
  simp only [Bool.and_eq_true] at hb
  refine ⟨hb.2, apart_mono h.2 ?_⟩
  have h1 := inB_le hb.1.2
  have h0 := h.1
  simp only [okWatch, Bool.and_eq_true] at h0
  have h2 := inB_le h0.1.1.1
  show w.True ≤ IntKind.i64.wrap (w.True + n)
  rw [i64_wrap (by omega) (by omega)]
  omega
theorem inv_drift {w : WatchT} {who off : Int} (h : invW w) (hb : okDrift w who off = true) : invW (driftW w who off) := by
  unfold okDrift at hb
  simp only [Bool.and_eq_true] at hb
  have ho := okWatch_of h.1
  refine ⟨?_, h.2⟩
  rw [drift_ok h.1 (okWho_lt hb.1.2 (by omega))]
  exact hb.2
theorem inv_give {w : WatchT} {who : Int} (h : invW w) : invW (giveW w who) := by
  refine ⟨give_good h.1, ?_⟩
  show (w.Given.map _).Pairwise (apart w.True)
  rw [List.pairwise_map]
  refine h.2.imp fun {a b} hab hne => ?_
  have hs := span_lo (who := who) h.1
  have hs2 := spanAt_of (who := who) h.1
  have ho := okWatch_of h.1
  have hwho : ∀ l : LeaseT, (endL who (spanAt w who).Low l).Who = l.Who := by
    intro l; unfold endL; split <;> rfl
  rw [hwho, hwho] at hne
  have h1 := hab hne
  unfold endL
  split
  · show IntKind.i64.wrap _ < _
    rw [i64_wrap (by omega) (by omega)]
    omega
  · exact h1
def stepW (w : WatchT) (a : ActT) : WatchT := match doB w a with | true => doW w a | false => w
theorem step_yes {w : WatchT} {a : ActT} (h : doB w a = true) : stepW w a = doW w a := by unfold stepW; rw [h]
theorem step_no {w : WatchT} {a : ActT} (h : doB w a = false) : stepW w a = w := by unfold stepW; rw [h]
theorem inv_step {w : WatchT} {a : ActT} (h : invW w) : invW (stepW w a) := by
  cases hb : doB w a with
  | false => rw [step_no hb]; exact h
  | true =>
    rw [step_yes hb]
    by_cases h1 : a.Kind = 1
    · obtain ⟨e1, e2⟩ := do1 (w := w) h1
      rw [e1] at hb; rw [e2, hb]; exact inv_ask h hb
    · by_cases h2 : a.Kind = 2
      · obtain ⟨e1, e2⟩ := do2 (w := w) h1 h2
        rw [e1] at hb; rw [e2, hb]; exact inv_pass h hb
      · by_cases h3 : a.Kind = 3
        · obtain ⟨e1, e2⟩ := do3 (w := w) h1 h2 h3
          rw [e1] at hb; rw [e2, hb]; exact inv_drift h hb
        · by_cases h4 : a.Kind = 4
          · obtain ⟨e1, e2⟩ := do4 (w := w) h1 h2 h3 h4
            rw [e1] at hb; rw [e2, hb]; exact inv_give h
          · obtain ⟨e1, e2⟩ := do5 (w := w) h1 h2 h3 h4
            rw [e1] at hb; cases hb
theorem pair_or {α : Type} {R : α → α → Prop} : ∀ {l : List α}, l.Pairwise R → ∀ a ∈ l, ∀ b ∈ l, a = b ∨ R a b ∨ R b a
  | [], _, a, ha, _, _ => by cases ha
  | x :: l, h, a, ha, b, hb => by
    rw [List.pairwise_cons] at h
    rcases List.mem_cons.1 ha with rfl | ha
    · rcases List.mem_cons.1 hb with rfl | hb
      · exact .inl rfl
      · exact .inr (.inl (h.1 b hb))
    · rcases List.mem_cons.1 hb with e | hb
      · rw [e]; exact .inr (.inr (h.1 a ha))
      · exact pair_or h.2 a ha b hb
theorem held_at {w : WatchT} {who : Int} (hg : okWatch w = true) (h : holds w who = true) : ∃ l ∈ w.Given, l.Who = who ∧ w.True ≤ l.Until := by
  unfold holds at h
  obtain ⟨l, hl, hb⟩ := List.any_eq_true.1 h
  unfold heldBy at hb
  simp only [Bool.and_eq_true, decide_eq_true_eq] at hb
  have := (span_lo (who := who) hg).2
  exact ⟨l, hl, hb.1.1, by omega⟩
theorem one_holder {w : WatchT} {i j : Int} (h : invW w) (hi : holds w i = true) (hj : holds w j = true) : i = j := by
  obtain ⟨a, ha, e1, e2⟩ := held_at h.1 hi
  obtain ⟨b, hb, e3, e4⟩ := held_at h.1 hj
  by_cases hij : i = j
  · exact hij
  · exfalso
    rcases pair_or h.2 a ha b hb with e | e | e
    · rw [e] at e1; exact hij (e1.symm.trans e3)
    · have := e (by rw [e1, e3]; exact hij); omega
    · have := e (by rw [e1, e3]; exact fun q => hij q.symm); omega
theorem len_one {α : Type} : ∀ {l : List α}, l.Nodup → (∀ a ∈ l, ∀ b ∈ l, a = b) → l.length ≤ 1
  | [], _, _ => by simp
  | [_], _, _ => by simp
  | x :: y :: l, h, h2 => by
    have e := h2 x (by simp) y (by simp)
    subst e
    rw [List.nodup_cons] at h
    exact absurd (List.mem_cons_self) h.1
theorem holders_one {w : WatchT} (h : invW w) : (holders w).length ≤ 1 := by
  unfold holders
  rw [if_pos h.1]
  unfold whoList
  rw [List.length_map]
  refine len_one (List.nodup_range.sublist List.filter_sublist) fun a ha b hb => ?_
  have h1 := (List.mem_filter.1 ha).2
  have h2 := (List.mem_filter.1 hb).2
  have := one_holder h h1 h2
  omega
end Go.Proofs.Ytgeoghlgpnedfaa
