/-
  Programs run in turn: a plain law.
  No condition.
-/
import Derived.Test.YthbheejeloomjaaGreatDoorTurn1
import Derived.Test.YthbheejeloomjaaGreatDoorRun3
namespace Go.Proofs.YthbheejeloomjaaGreatDoor
open Go.Ab
set_option linter.unusedSimpArgs false
set_option maxRecDepth 20000
set_option maxHeartbeats 4000000
set_option linter.unusedVariables false

theorem wok_pre : ∀ (xs pre : List WriteT), upW (pre ++ xs) → (∀ w ∈ xs, StOk w) → allPre wrAt pre xs = true
  | [], _, _, _ => rfl
  | x :: xs, pre, hu, hs => by
    have h1 := hs x (by simp)
    have hst : okStored x.Val x.Gone = true := by
      unfold okStored
      rw [h1.2.1]
      cases hg : x.Gone with
      | false => rfl
      | true => rw [h1.2.2 hg]; rfl
    have hp : prevB (fun a b : WriteT => Op.bytesLess a.Key b.Key) pre x = true := by
      unfold prevB
      cases hl : pre.getLast? with
      | none => rfl
      | some q => exact (List.pairwise_append.1 hu).2.2 q (List.mem_of_getLast? hl) x (by simp)
    unfold allPre
    rw [wok_pre xs (pre ++ [x]) (by simpa using hu) (fun w hw => hs w (by simp [hw])), Bool.and_true]
    unfold wrAt
    rw [hst, h1.1, hp]; rfl
theorem okRw_of {l : List WriteT} (h : WOk l) (hg : l.any WriteT.Gone = false) : okRw l = decide (l.length ≤ 24) := by
  unfold okRw okWrites
  rw [wok_pre l [] h.1 h.2, hg, Bool.true_and, Bool.not_false, Bool.and_true]
  exact decide_eq_decide.2 (by omega)
theorem putRS_eq {rows ws : List WriteT} (h : WOk rows) : putRS rows ws = putR rows ws := by unfold putRS putR; rw [(putW_fold ws rows h.1).1]
theorem okRw_put {rows ws : List WriteT} (h : WOk rows) (hw : WOk ws) : okRw (putR rows ws) = decide ((putR rows ws).length ≤ 24) := by
  rw [← putRS_eq h]
  refine okRw_of ⟨List.Pairwise.filter _ (putW_fold ws rows h.1).2, fun w hm => ?_⟩ ?_
  · rcases putWS_fold_mem ws rows (List.mem_filter.1 hm).1 with hm | hm
    · exact h.2 w hm
    · exact hw.2 w hm
  · rw [List.any_eq_false]
    intro w hm
    have := (List.mem_filter.1 hm).2
    simpa using this
def dT (now : List WriteT) (l : List OpT) : Bool := decide ((runA now l).2.1 = 3) && decide ((putR now (runA now l).2.2).length ≤ 24)
def nT (now : List WriteT) (l : List OpT) : List WriteT := match dT now l with
  | true => putR now (runA now l).2.2
  | false => now
def oneT (acc : List WriteT × List Bool) (l : List OpT) : List WriteT × List Bool := (nT acc.1 l, acc.2 ++ [dT acc.1 l])
def turnF (rows : List WriteT) (ls : List (List OpT)) : List WriteT × List Bool := ls.foldl oneT (rows, [])
theorem dT_yes {now : List WriteT} {l : List OpT} (h1 : (runA now l).2.1 = 3) (h2 : (putR now (runA now l).2.2).length ≤ 24) : dT now l = true := by unfold dT; rw [decide_eq_true h1, decide_eq_true h2]; rfl
theorem dT_no {now : List WriteT} {l : List OpT} (h : ¬ (runA now l).2.1 = 3 ∨ ¬ (putR now (runA now l).2.2).length ≤ 24) : dT now l = false := by
  unfold dT
  rcases h with h | h <;> rw [decide_eq_false h] <;> simp
theorem nT_yes {now : List WriteT} {l : List OpT} (h : dT now l = true) : nT now l = putR now (runA now l).2.2 := by unfold nT; rw [h]
theorem nT_no {now : List WriteT} {l : List OpT} (h : dT now l = false) : nT now l = now := by unfold nT; rw [h]
section
variable {now : List WriteT} {l : List OpT}
theorem runA_w (h : okRw now = true) (ho : okOps l = true) : WOk (runA now l).2.2 ∧ (runA now l).2.2.length ≤ 8 := (runF_ok (rw_ok h).1.2 ho 9 [] GotW.nil).2
theorem okRw_turn (h : okRw now = true) (ho : okOps l = true) : okRw (putR now (runA now l).2.2) = decide ((putR now (runA now l).2.2).length ≤ 24) := okRw_put (rw_ok h).1 (runA_w h ho).1
theorem nT_ok (h : okRw now = true) (ho : okOps l = true) : okRw (nT now l) = true := by
  cases hd : dT now l with
  | false => rw [nT_no hd]; exact h
  | true =>
    rw [nT_yes hd, okRw_turn h ho]
    unfold dT at hd
    rw [Bool.and_eq_true] at hd
    exact hd.2
end
theorem turn_next {rows : List WriteT} {ls : List (List OpT)} {k : Nat} {x : List OpT} (hx : ls[k]? = some x) : turnF rows (ls.take (k + 1)) = oneT (turnF rows (ls.take k)) x := by
  unfold turnF
  rw [take_get hx, List.foldl_append]; rfl
theorem turn_now {rows : List WriteT} {ls : List (List OpT)} {k : Nat} {x : List OpT} (hx : ls[k]? = some x) : (turnF rows (ls.take (k + 1))).1 = nT (turnF rows (ls.take k)).1 x := by rw [turn_next hx]; rfl
theorem turn_done {rows : List WriteT} {ls : List (List OpT)} {k : Nat} {x : List OpT} {b : Bool} {L : List (List AV)} (hx : ls[k]? = some x) (hb : dT (turnF rows (ls.take k)).1 x = b) (hL : L = [[.bool b]]) : (turnF rows (ls.take k)).2.map boolC ++ L = (turnF rows (ls.take (k + 1))).2.map boolC := by
  rw [turn_next hx, hL, ← hb]
  show _ = (_ ++ [_]).map boolC
  rw [List.map_append]; rfl
theorem turn_len (rows : List WriteT) : ∀ (ls : List (List OpT)) (acc : List WriteT × List Bool), (ls.foldl oneT acc).2.length = acc.2.length + ls.length
  | [], acc => rfl
  | l :: ls, acc => by
    rw [List.foldl_cons, turn_len rows ls]
    unfold oneT
    simp only [List.length_append, List.length_cons, List.length_nil]
    omega
theorem turnF_len (rows : List WriteT) (ls : List (List OpT)) : (turnF rows ls).2.length = ls.length := by
  have := turn_len rows ls (rows, [])
  simp only [List.length_nil] at this
  unfold turnF
  omega
theorem turnF_ok : ∀ (ls : List (List OpT)) (acc : List WriteT × List Bool), okRw acc.1 = true → (∀ l ∈ ls, okOps l = true) → okRw (ls.foldl oneT acc).1 = true
  | [], acc, h, _ => h
  | l :: ls, acc, h, ho => by
    rw [List.foldl_cons]
    exact turnF_ok ls _ (nT_ok h (ho l (by simp))) (fun x hx => ho x (by simp [hx]))
def turnB (rows : List WriteT) (ls : List (List OpT)) : Bool := (okRw rows && decide (ls.length ≤ 20)) && ls.all okOps
def turnR (rows : List WriteT) (ls : List (List OpT)) : List WriteT × List Bool := match turnB rows ls with
  | true => turnF rows ls
  | false => ([], [])
theorem turnR_yes {rows : List WriteT} {ls : List (List OpT)} (h1 : okRw rows = true) (h2 : ls.length ≤ 20) (h3 : ls.all okOps = true) : turnB rows ls = true ∧ turnR rows ls = turnF rows ls := by
  have : turnB rows ls = true := by unfold turnB; rw [h1, h3, decide_eq_true h2]; rfl
  exact ⟨this, by unfold turnR; rw [this]⟩
theorem turnR_no {rows : List WriteT} {ls : List (List OpT)} (h : okRw rows = false ∨ ¬ ls.length ≤ 20 ∨ ls.all okOps = false) : turnB rows ls = false ∧ turnR rows ls = ([], []) := by
  have : turnB rows ls = false := by unfold turnB; rcases h with h | h | h <;> first | (rw [h]; simp; done) | (rw [decide_eq_false h]; simp)
  exact ⟨this, by unfold turnR; rw [this]⟩
theorem turnR_ok (rows : List WriteT) (ls : List (List OpT)) : WOk (turnR rows ls).1 ∧ (turnR rows ls).1.length ≤ 24 ∧ (turnR rows ls).2.length ≤ 20 := by
  unfold turnR
  split
  · rename_i h
    unfold turnB at h
    simp only [Bool.and_eq_true, decide_eq_true_eq] at h
    have h1 := rw_ok (turnF_ok ls (rows, []) h.1.1 (fun l hl => List.all_eq_true.1 h.2 l hl))
    exact ⟨h1.1, h1.2, by rw [turnF_len]; exact h.1.2⟩
  · exact ⟨WOk.nil, Nat.zero_le _, Nat.zero_le _⟩
end Go.Proofs.YthbheejeloomjaaGreatDoor
