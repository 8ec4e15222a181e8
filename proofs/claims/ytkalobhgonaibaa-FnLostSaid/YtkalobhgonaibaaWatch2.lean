/-
  What the functions on holding leases give.
  No condition.
-/
import Derived.Test.YtkalobhgonaibaaWatch
namespace Go.Proofs.Ytkalobhgonaibaa
open Go.Ab
set_option linter.unusedSimpArgs false
set_option maxRecDepth 20000
set_option linter.unusedVariables false

def spanOf (c : ClockT) (t : Int) : SpanT := ⟨t + c.Off - 5, t + c.Off + 5⟩
def spanAt (w : WatchT) (who : Int) : SpanT := spanOf ((w.Clocks[who.toNat]?).getD ⟨0⟩) w.True
theorem spanAt_eq {w : WatchT} {who : Int} {x : ClockT} (hx : w.Clocks[who.toNat]? = some x) : spanAt w who = spanOf x w.True := by unfold spanAt; rw [hx]; rfl
theorem spanAt_of {w : WatchT} {who : Int} (hg : okWatch w = true) : -10 ≤ (spanAt w who).Low ∧ (spanAt w who).High ≤ 100010 ∧ (spanAt w who).High = (spanAt w who).Low + 10 := by
  have ho := okWatch_of hg
  unfold spanAt spanOf
  cases h : w.Clocks[who.toNat]? with
  | none => simp only [Option.getD_none]; omega
  | some x =>
    have := ho.2.2.2.1 x (List.mem_of_getElem? h)
    simp only [Option.getD_some]
    omega
def heldBy (who high : Int) (l : LeaseT) : Bool := (decide (l.Who = who) && decide (l.From ≤ high)) && decide (high ≤ l.Until)
def holds (w : WatchT) (who : Int) : Bool := w.Given.any (heldBy who (spanAt w who).High)
theorem hb1 {who high : Int} {l : LeaseT} (h1 : l.Who = who) (h2 : l.From ≤ high) (h3 : high ≤ l.Until) : heldBy who high l = true := by simp only [heldBy, decide_eq_true h1, decide_eq_true h2, decide_eq_true h3, Bool.and_true]
theorem hb2 {who high : Int} {l : LeaseT} (h : ¬ l.Who = who ∨ ¬ l.From ≤ high ∨ ¬ high ≤ l.Until) : heldBy who high l = false := by
  rcases h with h | h | h <;> simp only [heldBy, decide_eq_false h, Bool.and_false, Bool.false_and]
def mx (a b : Int) : Int := if b > a then b else a
def waitFrom (who low : Int) (m : Int) : List LeaseT → Int
  | [] => m
  | l :: ls => waitFrom who low (if l.Who = who then m else mx m (l.Until + 1 - low)) ls
def waitN (w : WatchT) (who : Int) : Int := waitFrom who (spanAt w who).Low 0 w.Given
theorem mx_eq (a b : Int) : (if a > b then a else b) = mx a b := by unfold mx; split <;> split <;> omega
theorem waitFrom_yes {who low m N : Int} {ls : List LeaseT} {k : Nat} {x : LeaseT} (h : waitFrom who low m (ls.drop k) = N) (hx : ls[k]? = some x) (e : x.Who = who) : waitFrom who low m (ls.drop (k + 1)) = N := by
  rw [drop_get hx] at h
  simp only [waitFrom, e, if_true] at h
  exact h
theorem waitFrom_no {who low m N v : Int} {ls : List LeaseT} {k : Nat} {x : LeaseT} (h : waitFrom who low m (ls.drop k) = N) (hx : ls[k]? = some x) (e : ¬ x.Who = who) (hv : v = mx m (x.Until + 1 - low)) : waitFrom who low v (ls.drop (k + 1)) = N := by
  rw [drop_get hx] at h
  simp only [waitFrom, e, if_false] at h
  rw [hv]
  exact h
theorem waitFrom_end {who low m N : Int} {ls : List LeaseT} {k : Nat} (h : waitFrom who low m (ls.drop k) = N) (hk : ¬ (k : Int) < ls.length) : m = N := by
  rw [List.drop_eq_nil_of_le (by omega)] at h
  exact h
theorem wait_term {w : WatchT} {who : Int} {l : LeaseT} (hg : okWatch w = true) (hl : l ∈ w.Given) : IntKind.i64.wrap (IntKind.i64.wrap (l.Until + 1) - (spanAt w who).Low) = l.Until + 1 - (spanAt w who).Low ∧ l.Until + 1 - (spanAt w who).Low ≤ 100300 := by
  have h1 := ((okWatch_of hg).2.2.2.2 l hl).2.2
  have h2 := spanAt_of (who := who) hg
  rw [i64_wrap (e := l.Until + 1) (by omega) (by omega), i64_wrap (by omega) (by omega)]
  omega
theorem mx_le {a b c : Int} (h : a ≤ c) (h' : b ≤ c) (h0 : 0 ≤ a) : 0 ≤ mx a b ∧ mx a b ≤ c := by unfold mx; split <;> omega
theorem waitN_le {w : WatchT} {who : Int} (hg : okWatch w = true) : 0 ≤ waitN w who ∧ waitN w who ≤ 100300 := by
  have key : ∀ (ls : List LeaseT) (m : Int), (∀ l ∈ ls, l ∈ w.Given) → 0 ≤ m → m ≤ 100300 → 0 ≤ waitFrom who (spanAt w who).Low m ls ∧ waitFrom who (spanAt w who).Low m ls ≤ 100300 := by
    intro ls
    induction ls with
    | nil => exact fun m _ h1 h2 => ⟨h1, h2⟩
    | cons l ls ih =>
      intro m hm h1 h2
      have hl := (wait_term (who := who) hg (hm l (by simp))).2
      simp only [waitFrom]
      split
      · exact ih m (fun z hz => hm z (by simp [hz])) h1 h2
      · have := mx_le h2 hl h1
        exact ih _ (fun z hz => hm z (by simp [hz])) this.1 this.2
  exact key w.Given 0 (fun _ h => h) (by omega) (by omega)
def okFree (w : WatchT) (who : Int) : Bool := okWatch w && okWho w.Clocks.length who && !decide (w.True + waitN w who > 100000)
theorem free_wrap {w : WatchT} {who : Int} (hg : okWatch w = true) : IntKind.i64.wrap (w.True + waitN w who) = w.True + waitN w who := by
  have h1 := (okWatch_of hg).1
  have h2 := waitN_le (who := who) hg
  exact i64_wrap (by omega) (by omega)
end Go.Proofs.Ytkalobhgonaibaa
