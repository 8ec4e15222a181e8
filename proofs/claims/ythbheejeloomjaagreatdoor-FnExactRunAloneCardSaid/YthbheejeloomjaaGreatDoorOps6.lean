/-
  StepOps and its law.
  No condition.
-/
import Derived.Test.YthbheejeloomjaaGreatDoorOps4
import Derived.Test.YthbheejeloomjaaGreatDoorOps5
namespace Go.Proofs.YthbheejeloomjaaGreatDoor
open Go.Ab
set_option linter.unusedSimpArgs false
set_option maxRecDepth 20000
set_option maxHeartbeats 4000000
set_option linter.unusedVariables false

theorem step1_ok {got : List GotT} {ws : List WriteT} {o : OpT} (h : WOk ws) (ho : okOp o = true) (hg : okGots got = true) : WOk (step1 got ws o).2.2 ∧ (step1 got ws o).2.2.length ≤ ws.length + 1 := by
  by_cases h2 : o.Kind = 2
  · rw [step1_put h2]; exact ⟨h.put (stOk_put ho), putWS_len _ _⟩
  by_cases h3 : o.Kind = 3
  · rw [step1_drop h2 h3]; exact ⟨h.put (stOk_drop ho), putWS_len _ _⟩
  cases hs : (stands ws got o.Key).2.2 with
  | false => rw [step1_ask h2 h3 hs]; exact ⟨WOk.nil, Nat.zero_le _⟩
  | true =>
    cases hh : holdsB o (stands ws got o.Key).1 (stands ws got o.Key).2.1 with
    | false => rw [step1_give h2 h3 hs hh]; exact ⟨WOk.nil, Nat.zero_le _⟩
    | true =>
      by_cases h4 : o.Kind = 4
      · rw [step1_add h4 hs hh]; exact ⟨h.put (stOk_add ho h4 hh (stands_ok h.2 hg o.Key).2), putWS_len _ _⟩
      · rw [step1_on h2 h3 h4 hs hh]; exact ⟨h, Nat.le_succ _⟩
theorem stepG_ok {got : List GotT} (hg : okGots got = true) : ∀ (l : List OpT) (ws : List WriteT), (∀ o ∈ l, okOp o = true) → WOk ws → WOk (stepG got l ws).2.2 ∧ (stepG got l ws).2.2.length ≤ ws.length + l.length
  | [], ws, _, h => ⟨h, Nat.le_refl _⟩
  | o :: os, ws, ho, h => by
    have h1 := step1_ok h (ho o (by simp)) hg
    unfold stepG
    split
    · have := stepG_ok hg os (step1 got ws o).2.2 (fun x hx => ho x (by simp [hx])) h1.1
      exact ⟨this.1, by simp only [List.length_cons]; omega⟩
    · exact ⟨h1.1, by simp only [List.length_cons]; omega⟩
theorem okOps_all {l : List OpT} (h : okOps l = true) : ∀ o ∈ l, okOp o = true := by
  unfold okOps at h
  rw [Bool.and_eq_true] at h
  exact List.all_eq_true.1 h.1
def stepB (l : List OpT) (got : List GotT) : Bool := okOps l && okGots got
def stepR (l : List OpT) (got : List GotT) : Int × List UInt8 × List WriteT := match stepB l got with
  | true => stepG got l []
  | false => (0, [], [])
theorem wok_ok {ws : List WriteT} (h : WOk ws) (hl : ws.length ≤ 1048576) : okL WriteT.ok ws := ⟨by omega, fun w hw => by
  have h1 := h.2 w hw
  have h2 := okVal_len h1.2.1
  have h3 := h1.1
  unfold okKey at h3
  rw [Bool.and_eq_true] at h3
  have h4 := inB_le' h3.1
  exact ⟨by show w.Key.length ≤ _; omega, by show w.Val.length ≤ _; omega, trivial⟩⟩
theorem wok_cnt {ws : List WriteT} (hl : ws.length ≤ 1048576) : cntL WriteT.cnt ws ≤ 1048576000 := by
  have := cntL_l100 (cnt := WriteT.cnt) (fun y => by show 1 + 1 + 1 ≤ 100; omega) ws
  omega
end Go.Proofs.YthbheejeloomjaaGreatDoor
