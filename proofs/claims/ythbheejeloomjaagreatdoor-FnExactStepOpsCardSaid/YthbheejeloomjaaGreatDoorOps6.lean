/-
  StepOps and its law.
  No condition.
-/
import Derived.Test.YthbheejeloomjaaGreatDoorOps4
import Derived.Test.YthbheejeloomjaaGreatDoorOps5
namespace Go.Proofs.YthbheejeloomjaaGreatDoor
open Go.Ab
set_option linter.unusedSimpArgs false
set_option maxRecDepth 20000
set_option maxHeartbeats 4000000
set_option linter.unusedVariables false

theorem step1_ok {got : List GotT} {ws : List WriteT} {o : OpT} (h : WOk ws) (ho : okOp o = true) (hg : okGots got = true) : WOk (step1 got ws o).2.2 ∧ (step1 got ws o).2.2.length ≤ ws.length + 1 := by
  by_cases h2 : o.Kind = 2
  · rw [step1_put h2]; exact ⟨h.put (stOk_put ho), putWS_len _ _⟩
  by_cases h3 : o.Kind = 3
  · rw [step1_drop h2 h3]; exact ⟨h.put (stOk_drop ho), putWS_len _ _⟩
  cases hs : (stands ws got o.Key).2.2 with
  | false => rw [step1_ask h2 h3 hs]; exact ⟨WOk.nil, Nat.zero_le _⟩
  | true =>
    cases hh : holdsB o (stands ws got o.Key).1 (stands ws got o.Key).2.1 with
    | false => rw [step1_give h2 h3 hs hh]; exact ⟨WOk.nil, Nat.zero_le _⟩
    | true =>
      by_cases h4 : o.Kind = 4
      · rw [step1_add h4 hs hh]; exact ⟨h.put (stOk_add ho h4 hh (stands_ok h.2 hg o.Key).2), putWS_len _ _⟩
      · rw [step1_on h2 h3 h4 hs hh]; exact ⟨h, Nat.le_succ _⟩
theorem stepG_ok {got : List GotT} (hg : okGots got = true) : ∀ (l : List OpT) (ws : List WriteT), (∀ o ∈ l, okOp o = true) → WOk ws → WOk (stepG got l ws).2.2 ∧ (stepG got l ws).2.2.length ≤ ws.length + l.length
  | [], ws, _, h => ⟨h, Nat.le_refl _⟩
  | o :: os, ws, ho, h => by
    have h1 := step1_ok h (ho o (by simp)) hg
    unfold stepG
    split
    · have := stepG_ok hg os (step1 got ws o).2.2 (fun x hx => ho x (by simp [hx])) h1.1
      exact ⟨this.1, by simp only [List.length_cons]; omega⟩
    · exact ⟨h1.1, by simp only [List.length_cons]; omega⟩
theorem okOps_all {l : List OpT} (h : okOps l = true) : ∀ o ∈ l, okOp o = true := by
  unfold okOps at h
  rw [Bool.and_eq_true] at h
  exact List.all_eq_true.1 h.1
def stepB (l : List OpT) (got : List GotT) : Bool := okOps l && okGots got
def stepR (l : List OpT) (got : List GotT) : Int × List UInt8 × List WriteT := match stepB l got with
  | true => stepG got l []
  | false => (0, [], [])
theorem stepR_ok (l : List OpT) (got : List GotT) : WOk (stepR l got).2.2 ∧ (stepR l got).2.2.length ≤ 8 := by
  unfold stepR
  split
  · rename_i h
    unfold stepB at h
    rw [Bool.and_eq_true] at h
    have h1 := stepG_ok h.2 l [] (okOps_all h.1) WOk.nil
    have h2 := okOps_len h.1
    have h3 := h1.2
    simp only [List.length_nil] at h3
    exact ⟨h1.1, by omega⟩
  · exact ⟨WOk.nil, Nat.zero_le _⟩
theorem stepR_yes {l : List OpT} {got : List GotT} (h1 : okOps l = true) (h2 : okGots got = true) : stepB l got = true ∧ stepR l got = stepG got l [] := by
  have : stepB l got = true := by unfold stepB; rw [h1, h2]; rfl
  exact ⟨this, by unfold stepR; rw [this]⟩
theorem stepR_no {l : List OpT} {got : List GotT} (h : okOps l = false ∨ okGots got = false) : stepB l got = false ∧ stepR l got = (0, [], []) := by
  have : stepB l got = false := by unfold stepB; rcases h with h | h <;> rw [h] <;> simp
  exact ⟨this, by unfold stepR; rw [this]⟩
theorem c_impl_StepOps (l : List OpT) (got : List GotT) (hok : okL OpT.ok l) (hgk : okL GotT.ok got) : PC Tryz.prog false 11 [.sl (l.map OpT.cells), .sl (got.map GotT.cells)] (.tup [.int .i64 (stepR l got).1, .str (stepR l got).2.1, .own 0, .bool (stepB l got)]) [⟨false, 74, 3, (stepR l got).2.2.map WriteT.cells⟩] := by
  refine pc_at Tryz.func11 rfl (by kernel_rfl) 29 [.tmp 4, .tmp 5, .tmp 6, .tmp 7] rfl rfl ?_
  repeat' (conv => whnf); first
 | (refine nameB_cases (b := okOps l) (fun h => ?_) (fun h => ?_))
 | (refine nameB_cases (b := okGots got) (fun h => ?_) (fun h => ?_))
 | refine nameB_true ?_
 | refine nameB_false ?_
 | refine splitB_true ?_
 | refine splitB_false ?_
 | refine Call0 (c_impl_GoodOps l hok) rfl rfl ?_
 | refine Call0 (c_impl_areGot got hgk) rfl rfl ?_
 | refine CallF (c_impl_stepOps l got (by assumption) (by assumption) hgk.1) rfl rfl rfl (Nat.le_of_ble_eq_true rfl) ?_
 | fail
  all_goals
    conv => whnf
    first
    | (obtain ⟨e1, e2⟩ := stepR_yes (l := l) (got := got) (by assumption) (by assumption); rw [e1, e2]; exact OutA_ids rfl rfl rfl ⟨⟨_, _, _, rfl, rfl⟩, trivial⟩ rfl (.inr (flat_one (flat_map (fun _ => rfl) _))))
    | (obtain ⟨e1, e2⟩ := stepR_no (l := l) (got := got) (by first | exact .inl (by assumption) | exact .inr (by assumption)); rw [e1, e2]; exact OutA_nil 6 1 74 3 rfl rfl (by decide) (OutA_ids rfl rfl rfl ⟨⟨_, _, _, rfl, rfl⟩, trivial⟩ rfl (.inr (flat_one (flat_map (fun _ => rfl) _)))))
    | trace_state
theorem c_spec_StepOps (l : List OpT) (got : List GotT) (hok : okL OpT.ok l) (hgk : okL GotT.ok got) : PC Tryz.prog true 8 [.sl (l.map OpT.cells), .sl (got.map GotT.cells)] (.tup [.int .i64 (stepR l got).1, .str (stepR l got).2.1, .sl ((stepR l got).2.2.map WriteT.cells), .bool (stepB l got)]) [] := by
  refine pc_at Tryz.func8 rfl (by kernel_rfl) 29 [.tmp 4, .tmp 5, .tmp 6, .tmp 7] rfl rfl ?_
  repeat' (conv => whnf); first
 | (refine nameB_cases (b := okOps l) (fun h => ?_) (fun h => ?_))
 | (refine nameB_cases (b := okGots got) (fun h => ?_) (fun h => ?_))
 | refine nameB_true ?_
 | refine nameB_false ?_
 | refine splitB_true ?_
 | refine splitB_false ?_
 | refine Call0 (c_spec_l5Good l hok) rfl rfl ?_
 | refine Call0 (c_spec_l5Gots got hgk) rfl rfl ?_
 | refine CallT (c_spec_l5Step l got (by assumption) (by assumption) hgk.1) rfl rfl rfl rfl (Nat.le_of_ble_eq_true rfl) ?_
 | fail
  all_goals
    conv => whnf
    first
    | (obtain ⟨e1, e2⟩ := stepR_yes (l := l) (got := got) (by assumption) (by assumption); rw [e1, e2]; exact OutA_plain rfl rfl rfl)
    | (obtain ⟨e1, e2⟩ := stepR_no (l := l) (got := got) (by first | exact .inl (by assumption) | exact .inr (by assumption)); rw [e1, e2]; exact OutA_nilS 6 rfl (OutA_plain rfl rfl rfl))
    | trace_state
theorem wok_ok {ws : List WriteT} (h : WOk ws) (hl : ws.length ≤ 1048576) : okL WriteT.ok ws := ⟨by omega, fun w hw => by
  have h1 := h.2 w hw
  have h2 := okVal_len h1.2.1
  have h3 := h1.1
  unfold okKey at h3
  rw [Bool.and_eq_true] at h3
  have h4 := inB_le' h3.1
  exact ⟨by show w.Key.length ≤ _; omega, by show w.Val.length ≤ _; omega, trivial⟩⟩
theorem wok_cnt {ws : List WriteT} (hl : ws.length ≤ 1048576) : cntL WriteT.cnt ws ≤ 1048576000 := by
  have := cntL_l100 (cnt := WriteT.cnt) (fun y => by show 1 + 1 + 1 ≤ 100; omega) ws
  omega
theorem law_StepOps (a : List OpT) (g : List GotT) (e : Int) (s : List UInt8) (W : List WriteT) (b : Bool) (hok : okL OpT.ok a) (hg : okL GotT.ok g) (hW : okL WriteT.ok W) (hww : cntL WriteT.cnt W ≤ 1048576000)
    (hS : PC Tryz.prog true 8 [.sl (a.map OpT.cells), .sl (g.map GotT.cells)] (.tup [.int .i64 e, .str s, .sl (W.map WriteT.cells), .bool b]) [])
    (hI : PC Tryz.prog false 11 [.sl (a.map OpT.cells), .sl (g.map GotT.cells)] (.tup [.int .i64 e, .str s, .own 0, .bool b]) [⟨false, 74, 3, W.map WriteT.cells⟩]) :
    PC Tryz.prog false 3 [.sl (a.map OpT.cells), .sl (g.map GotT.cells)] (.bool true) [] := by
  have hw2 : a.length ≤ wL OpT.w a := wL_len
  have hw3 : g.length ≤ wL GotT.w g := wL_len
  have hm1 := cntL_w100 (cnt := OpT.cnt) (w := OpT.w) (fun y => OpT.cnt_w y) a
  have hm3 := cntL_w100 (cnt := GotT.cnt) (w := GotT.w) (fun y => GotT.cnt_w y) g
  have hm2 := cntL_len_Write W
  refine pc_at Tryz.func3 rfl (by kernel_rfl) 161 [.tmp 4] rfl rfl ?_
  repeat' (conv => whnf); first
 | refine nameB_no (b := !(b == b)) (by simp) ?_
 | refine nameB_no (b := !(s == s)) (by simp) ?_
 | refine nameB_dno (by omega) ?_
 | refine nameB_true ?_
 | refine nameB_false ?_
 | (refine nameB_cases (fun h => ?_) (fun h => ?_) <;> try simp only [nmL, lensB] at h)
 | refine splitB_true ?_
 | refine splitB_false ?_
 | (by_cases hn : (1048576 : Int) - ((wL OpT.w a : Nat) : Int) < 0 <;> first | refine Call0 (pc_szneg (c_laws_szOpS a (1048576 : Int) (by omega) (by omega) hok) hn) rfl rfl ?_ | refine Call0 (pc_szpos (c_laws_szOpS a (1048576 : Int) (by omega) (by omega) hok) hn) rfl rfl ?_)
 | (by_cases hn : (1048576 - ((wL OpT.w a : Nat) : Int)) - ((wL GotT.w g : Nat) : Int) < 0 <;> first | refine Call0 (pc_szneg (c_laws_szGotS g (1048576 - ((wL OpT.w a : Nat) : Int)) (by omega) (by omega) hg) hn) rfl rfl ?_ | refine Call0 (pc_szpos (c_laws_szGotS g (1048576 - ((wL OpT.w a : Nat) : Int)) (by omega) (by omega) hg) hn) rfl rfl ?_)
 | refine CallT (hS) rfl rfl rfl rfl (Nat.le_of_ble_eq_true rfl) ?_
 | refine CallT (nid := 32784) (c_laws_toOpS_ro a (by omega)) rfl rfl rfl rfl (Nat.le_of_ble_eq_true rfl) ?_
 | refine CallT (nid := 32816) (c_laws_toGotS_ro g (by omega)) rfl rfl rfl rfl (Nat.le_of_ble_eq_true rfl) ?_
 | refine CallF (hI) rfl rfl rfl (Nat.le_of_ble_eq_true rfl) ?_
 | refine CallF (c_laws_toOpS a (by omega)) rfl rfl rfl (Nat.le_of_ble_eq_true rfl) ?_
 | refine CallF (c_laws_toGotS g (by omega)) rfl rfl rfl (Nat.le_of_ble_eq_true rfl) ?_
 | refine Call0 (pc_true (c_laws_eqWriteS W W hW) rfl) rfl rfl ?_
 | refine Call0 (pc_true (c_laws_eqOpS a a hok) rfl) rfl rfl ?_
 | refine Call0 (pc_true (c_laws_eqGotS g g hg) rfl) rfl rfl ?_
 | refine CallM1 (m_laws_markOpS a 1 (by omega) (by omega) (by omega)) [] trivial rfl rfl ?_
 | refine CallM1 (m_laws_markGotS g (1 + (cntL OpT.cnt a : Int)) (by omega) (by omega) (by omega)) [] trivial rfl rfl ?_
 | refine CallM1 (m_laws_markWriteS W 1 (by omega) (by omega) (by omega)) [(45088, WriteT.shp)] ⟨⟨_, _, _, rfl, by first | exact prom_map (fun _ => rfl) | exact prom_nil⟩, trivial⟩ rfl rfl ?_
 | refine Call0 (c_laws_heldWriteS W 1 (by omega) (by omega) (by omega)) rfl rfl ?_
 | fail
  all_goals
    conv => whnf
    first
    | (refine OutA_plain rfl rfl ?_; first | rfl | (exfalso; omega) | (exfalso; simp at * <;> omega))
    | trace_state
theorem c_laws_FnExactStepOps (a : List OpT) (g : List GotT) (hok : okL OpT.ok a) (hg : okL GotT.ok g) : PC Tryz.prog false 3 [.sl (a.map OpT.cells), .sl (g.map GotT.cells)] (.bool true) [] := by
  have h := stepR_ok a g
  exact law_StepOps a g _ _ _ _ hok hg (wok_ok h.1 (by omega)) (wok_cnt (by omega)) (c_spec_StepOps a g hok hg) (c_impl_StepOps a g hok hg)
end Go.Proofs.YthbheejeloomjaaGreatDoor
