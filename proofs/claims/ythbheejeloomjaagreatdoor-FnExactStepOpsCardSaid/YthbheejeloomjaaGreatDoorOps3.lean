/-
  A program step by step: a plain law.
  No condition.
-/
import Derived.Test.YthbheejeloomjaaGreatDoorOps2
namespace Go.Proofs.YthbheejeloomjaaGreatDoor
open Go.Ab
set_option linter.unusedSimpArgs false
set_option maxHeartbeats 4000000
set_option linter.unusedVariables false

def step1 (got : List GotT) (ws : List WriteT) (o : OpT) : Int × List UInt8 × List WriteT :=
  if o.Kind = 2 then (0, [], putWS ws ⟨o.Key, o.Val, false⟩)
  else if o.Kind = 3 then (0, [], putWS ws ⟨o.Key, [], true⟩)
  else match (stands ws got o.Key).2.2 with
    | false => (1, o.Key, [])
    | true => match holdsB o (stands ws got o.Key).1 (stands ws got o.Key).2.1 with
      | false => (2, [], [])
      | true => if o.Kind = 4 then (0, [], putWS ws ⟨o.Key, Lib.itoa (addN o (stands ws got o.Key).1), false⟩) else (0, [], ws)
def stepG (got : List GotT) : List OpT → List WriteT → Int × List UInt8 × List WriteT
  | [], ws => (3, [], ws)
  | o :: os, ws => if (step1 got ws o).1 = 0 then stepG got os (step1 got ws o).2.2 else step1 got ws o
section
variable {got : List GotT} {ws ws' : List WriteT} {o : OpT} {l : List OpT} {k : Nat} {B r : Int × List UInt8 × List WriteT}
theorem step1_put (h : o.Kind = 2) : step1 got ws o = (0, [], putWS ws ⟨o.Key, o.Val, false⟩) := by unfold step1; rw [if_pos h]
theorem step1_drop (h2 : ¬ o.Kind = 2) (h : o.Kind = 3) : step1 got ws o = (0, [], putWS ws ⟨o.Key, [], true⟩) := by unfold step1; rw [if_neg h2, if_pos h]
theorem step1_ask (h2 : ¬ o.Kind = 2) (h3 : ¬ o.Kind = 3) (h : (stands ws got o.Key).2.2 = false) : step1 got ws o = (1, o.Key, []) := by unfold step1; rw [if_neg h2, if_neg h3, h]
theorem step1_give (h2 : ¬ o.Kind = 2) (h3 : ¬ o.Kind = 3) (h : (stands ws got o.Key).2.2 = true) (h4 : holdsB o (stands ws got o.Key).1 (stands ws got o.Key).2.1 = false) : step1 got ws o = (2, [], []) := by
  unfold step1
  rw [if_neg h2, if_neg h3, h]
  simp only
  rw [h4]
theorem step1_add (h5 : o.Kind = 4) (h : (stands ws got o.Key).2.2 = true) (h4 : holdsB o (stands ws got o.Key).1 (stands ws got o.Key).2.1 = true) : step1 got ws o = (0, [], putWS ws ⟨o.Key, Lib.itoa (addN o (stands ws got o.Key).1), false⟩) := by
  unfold step1
  rw [if_neg (by omega), if_neg (by omega), h]
  simp only
  rw [h4]
  simp only
  rw [if_pos h5]
theorem step1_on (h2 : ¬ o.Kind = 2) (h3 : ¬ o.Kind = 3) (h5 : ¬ o.Kind = 4) (h : (stands ws got o.Key).2.2 = true) (h4 : holdsB o (stands ws got o.Key).1 (stands ws got o.Key).2.1 = true) : step1 got ws o = (0, [], ws) := by
  unfold step1
  rw [if_neg h2, if_neg h3, h]
  simp only
  rw [h4]
  simp only
  rw [if_neg h5]
theorem stepG_go (h : stepG got (l.drop k) ws = B) (hx : l[k]? = some o) (h1 : step1 got ws o = (0, [], ws')) : stepG got (l.drop (k + 1)) ws' = B := by
  rw [drop_get hx] at h
  unfold stepG at h
  rw [h1] at h
  simpa using h
theorem stepG_stop (h : stepG got (l.drop k) ws = B) (hx : l[k]? = some o) (h1 : step1 got ws o = r) (hr : r.1 ≠ 0) : B = r := by
  rw [drop_get hx] at h
  unfold stepG at h
  rw [h1, if_neg hr] at h
  exact h.symm
theorem stepG_end (h : stepG got (l.drop k) ws = B) (hk : ¬ (k : Int) < l.length) : B = (3, [], ws) := by
  rw [List.drop_eq_nil_of_le (by omega)] at h
  exact h.symm
end
def StOk (w : WriteT) : Prop := okKey w.Key = true ∧ okVal w.Val = true ∧ (w.Gone = true → w.Val = [])
def WOk (ws : List WriteT) : Prop := upW ws ∧ ∀ w ∈ ws, StOk w
theorem WOk.put {ws : List WriteT} {w : WriteT} (h : WOk ws) (hw : StOk w) : WOk (putWS ws w) := ⟨putWS_up h.1 w, fun x hx => by
  rcases putWS_mem hx with hx | rfl
  · exact h.2 x hx
  · exact hw⟩
theorem WOk.nil : WOk [] := ⟨List.Pairwise.nil, fun _ h => by cases h⟩
theorem allPre_mem {α : Type} {q : List α → α → Bool} : ∀ (xs pre : List α), allPre q pre xs = true → ∀ x ∈ xs, ∃ p, q p x = true
  | [], _, _, _, hx => by cases hx
  | y :: ys, pre, h, x, hx => by
    unfold allPre at h
    rw [Bool.and_eq_true] at h
    rcases List.mem_cons.1 hx with rfl | hx
    · exact ⟨pre, h.1⟩
    · exact allPre_mem ys _ h.2 x hx
theorem got_ok {gs : List GotT} (h : okGots gs = true) {g : GotT} (hg : g ∈ gs) : okKey g.Key = true ∧ okVal g.Val = true ∧ (g.There = false → g.Val = []) := by
  unfold okGots at h
  rw [Bool.and_eq_true] at h
  obtain ⟨p, hp⟩ := allPre_mem gs [] h.1 g hg
  unfold gotAt okStored at hp
  simp only [Bool.and_eq_true] at hp
  refine ⟨hp.1.1, hp.1.2.1, fun ht => ?_⟩
  have := hp.1.2.2
  rw [ht] at this
  simpa using this
theorem stands_ok {ws : List WriteT} {got : List GotT} (hw : ∀ w ∈ ws, StOk w) (hg : okGots got = true) (key : List UInt8) : okVal (stands ws got key).1 = true ∧ ((stands ws got key).2.1 = false → (stands ws got key).1 = []) := by
  unfold stands
  split
  · rename_i w hf
    have := hw w (List.mem_of_find?_eq_some hf)
    exact ⟨this.2.1, fun h => this.2.2 (by simpa using h)⟩
  · unfold readG
    split
    · rename_i g hf
      have := got_ok hg (List.mem_of_find?_eq_some hf)
      exact ⟨this.2.1, this.2.2⟩
    · exact ⟨rfl, fun _ => rfl⟩
theorem okVal_len {v : List UInt8} (h : okVal v = true) : v.length ≤ 24 := by
  unfold okVal at h
  rw [Bool.and_eq_true, decide_eq_true_eq] at h
  omega
theorem okOp_parts {o : OpT} (h : okOp o = true) : okKey o.Key = true ∧ okVal o.Val = true ∧ -9999 ≤ o.By ∧ o.By ≤ 9999 := by
  have hI := h
  rw [← okOpI_eq] at hI
  unfold okOpI at hI
  simp only [Bool.and_eq_true] at hI
  have := inB_le' hI.2.2.2.2.1
  exact ⟨hI.2.1, hI.2.2.1, this.1, this.2⟩
theorem numS_nil : numS [] = (0, false) := by rfl
theorem addN_in {o : OpT} {val : List UInt8} {there : Bool} (ho : okOp o = true) (hk : o.Kind = 4) (hh : holdsB o val there = true) (hz : there = false → val = []) : -999999 ≤ addN o val ∧ addN o val ≤ 999999 := by
  obtain ⟨_, _, h1, h2⟩ := okOp_parts ho
  cases there with
  | false =>
    rw [hz rfl]
    unfold addN
    rw [numS_nil, i64_wrap (by simp only; omega) (by simp only; omega)]
    simp only
    omega
  | true =>
    unfold holdsB at hh
    rw [if_pos hk] at hh
    simp only [Bool.not_true, Bool.false_or, Bool.and_eq_true] at hh
    exact inB_le' hh.2
theorem okB_dg {c : UInt8} {more : List UInt8} (h : isDg c = true) : okB more c = true := by
  unfold isDg at h
  simp only [Bool.and_eq_true, decide_eq_true_eq] at h
  exact okB_1 (isLD_yes (by omega)).symm
theorem okVal_itoa {v : Int} (h0 : -999999 ≤ v) (h1 : v ≤ 999999) : okVal (Lib.itoa v) = true := by
  have hd : ∀ n : Nat, okBytes (Lib.decDigits n) [46, 45, 44, 95] = true := fun n => by
    unfold okBytes
    rw [List.all_eq_true]
    intro c hc
    exact okB_dg (List.all_eq_true.1 (dd_dg n).1 c hc)
  unfold okVal Lib.itoa
  split
  · have hl := dd_len 5 v.natAbs (by omega)
    rw [Bool.and_eq_true, decide_eq_true_eq]
    refine ⟨by simp only [List.length_cons]; omega, ?_⟩
    show (okB [46, 45, 44, 95] 45 && okBytes (Lib.decDigits v.natAbs) [46, 45, 44, 95]) = true
    rw [hd]
    rfl
  · have hl := dd_len 5 v.toNat (by omega)
    rw [Bool.and_eq_true, decide_eq_true_eq]
    exact ⟨by omega, hd _⟩
theorem i64_in (e : Int) : -9223372036854775808 ≤ IntKind.i64.wrap e ∧ IntKind.i64.wrap e ≤ 9223372036854775807 := by
  rw [i64_wrap_eq]; omega
theorem stOk_put {o : OpT} (h : okOp o = true) : StOk ⟨o.Key, o.Val, false⟩ := ⟨(okOp_parts h).1, (okOp_parts h).2.1, fun q => by cases q⟩
theorem stOk_drop {o : OpT} (h : okOp o = true) : StOk ⟨o.Key, [], true⟩ := ⟨(okOp_parts h).1, rfl, fun _ => rfl⟩
theorem stOk_add {o : OpT} {val : List UInt8} {there : Bool} (h : okOp o = true) (hk : o.Kind = 4) (hh : holdsB o val there = true) (hz : there = false → val = []) : StOk ⟨o.Key, Lib.itoa (addN o val), false⟩ := by
  obtain ⟨h0, h1⟩ := addN_in h hk hh hz
  exact ⟨(okOp_parts h).1, okVal_itoa h0 h1, fun q => by cases q⟩
theorem okOps_at {l : List OpT} {k : Nat} {x : OpT} (h : okOps l = true) (hx : l[k]? = some x) : okOp x = true := by
  unfold okOps at h
  rw [Bool.and_eq_true] at h
  exact List.all_eq_true.1 h.1 x (List.mem_of_getElem? hx)
theorem okOps_len {l : List OpT} (h : okOps l = true) : l.length ≤ 8 := by
  unfold okOps at h
  rw [Bool.and_eq_true, decide_eq_true_eq] at h
  omega
structure OnWay (got : List GotT) (l : List OpT) (k : Nat) (ws : List WriteT) : Prop where
  run : stepG got (l.drop k) ws = stepG got l []
  ok : WOk ws
  len : ws.length ≤ k
  kl : k ≤ l.length
section
variable {got : List GotT} {l : List OpT} {k : Nat} {ws : List WriteT} {x : OpT}
theorem OnWay.start : OnWay got l 0 [] := ⟨rfl, WOk.nil, Nat.le_refl _, Nat.zero_le _⟩
theorem OnWay.put (h : OnWay got l k ws) (ho : okOps l = true) (hx : l[k]? = some x) (h2 : x.Kind = 2) : OnWay got l (k + 1) (putWS ws ⟨x.Key, x.Val, false⟩) :=
  ⟨stepG_go h.run hx (step1_put h2), h.ok.put (stOk_put (okOps_at ho hx)), Nat.le_trans (putWS_len _ _) (Nat.succ_le_succ h.len), (List.getElem?_eq_some_iff.1 hx).1⟩
theorem OnWay.drop (h : OnWay got l k ws) (ho : okOps l = true) (hx : l[k]? = some x) (h2 : ¬ x.Kind = 2) (h3 : x.Kind = 3) : OnWay got l (k + 1) (putWS ws ⟨x.Key, [], true⟩) :=
  ⟨stepG_go h.run hx (step1_drop h2 h3), h.ok.put (stOk_drop (okOps_at ho hx)), Nat.le_trans (putWS_len _ _) (Nat.succ_le_succ h.len), (List.getElem?_eq_some_iff.1 hx).1⟩
theorem OnWay.add (h : OnWay got l k ws) (ho : okOps l = true) (hg : okGots got = true) (hx : l[k]? = some x) (h4 : x.Kind = 4) (hs : (stands ws got x.Key).2.2 = true) (hh : holdsB x (stands ws got x.Key).1 (stands ws got x.Key).2.1 = true) : OnWay got l (k + 1) (putWS ws ⟨x.Key, Lib.itoa (addN x (stands ws got x.Key).1), false⟩) :=
  ⟨stepG_go h.run hx (step1_add h4 hs hh), h.ok.put (stOk_add (okOps_at ho hx) h4 hh (stands_ok h.ok.2 hg x.Key).2), Nat.le_trans (putWS_len _ _) (Nat.succ_le_succ h.len), (List.getElem?_eq_some_iff.1 hx).1⟩
theorem OnWay.on (h : OnWay got l k ws) (hx : l[k]? = some x) (h2 : ¬ x.Kind = 2) (h3 : ¬ x.Kind = 3) (h4 : ¬ x.Kind = 4) (hs : (stands ws got x.Key).2.2 = true) (hh : holdsB x (stands ws got x.Key).1 (stands ws got x.Key).2.1 = true) : OnWay got l (k + 1) ws :=
  ⟨stepG_go h.run hx (step1_on h2 h3 h4 hs hh), h.ok, Nat.le_succ_of_le h.len, (List.getElem?_eq_some_iff.1 hx).1⟩
theorem OnWay.ask (h : OnWay got l k ws) (hx : l[k]? = some x) (h2 : ¬ x.Kind = 2) (h3 : ¬ x.Kind = 3) (hs : (stands ws got x.Key).2.2 = false) : stepG got l [] = (1, x.Key, []) := stepG_stop h.run hx (step1_ask h2 h3 hs) (show (1 : Int) ≠ 0 by decide)
theorem OnWay.give (h : OnWay got l k ws) (hx : l[k]? = some x) (h2 : ¬ x.Kind = 2) (h3 : ¬ x.Kind = 3) (hs : (stands ws got x.Key).2.2 = true) (hh : holdsB x (stands ws got x.Key).1 (stands ws got x.Key).2.1 = false) : stepG got l [] = (2, [], []) := stepG_stop h.run hx (step1_give h2 h3 hs hh) (show (2 : Int) ≠ 0 by decide)
theorem OnWay.done (h : OnWay got l k ws) (hk : ¬ (k : Int) < l.length) : stepG got l [] = (3, [], ws) := stepG_end h.run hk
theorem holds_23 (h : x.Kind = 2 ∨ x.Kind = 3) (v : List UInt8) (t : Bool) : holdsB x v t = true := by
  unfold holdsB
  rw [if_neg (by omega), if_neg (by omega), if_neg (by omega), if_neg (by omega)]
end
end Go.Proofs.YthbheejeloomjaaGreatDoor
