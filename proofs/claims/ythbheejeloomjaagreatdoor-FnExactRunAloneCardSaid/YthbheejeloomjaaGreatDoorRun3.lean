/-
  A program run against rows: the reference's functions, and the law of RunAlone.
  No condition.
-/
import Derived.Test.YthbheejeloomjaaGreatDoorRun2
import Derived.Test.YthbheejeloomjaaGreatDoorOps5F
namespace Go.Proofs.YthbheejeloomjaaGreatDoor
open Go.Ab
set_option linter.unusedSimpArgs false
set_option maxRecDepth 20000
set_option maxHeartbeats 4000000
set_option linter.unusedVariables false

theorem c_spec_l5Alone (rows : List WriteT) (l : List OpT) (hr : ∀ w ∈ rows, StOk w) (hl : rows.length ≤ 1048576) (ho : okOps l = true) : PC Tryz.prog false 49 [.sl (rows.map WriteT.cells), .sl (l.map OpT.cells)] (.tup [.own 0, .own 1, .bool (decide ((runA rows l).2.1 = 3))]) [⟨false, 70, 3, (runA rows l).1.map GotT.cells⟩, ⟨false, 74, 3, (runA rows l).2.2.map WriteT.cells⟩] := by
  refine pc_at Tryz.func49 rfl (by kernel_rfl) 30 [.tmp 4, .tmp 5, .tmp 6] rfl rfl ?_
  repeat' (conv => whnf); first
 | refine side_and (side_of (one_lenC rfl rfl)) ?_
 | refine side_and (side_of (by first | (and_intros <;> first | exact Nat.le_of_ble_eq_true rfl | rfl | (intro e; exact absurd (AV.own.inj e) (by decide)) | (intro e; exact AV.noConfusion e)) | fail)) ?_
 | refine side_and (side_of (app_boundC (L := got.map GotT.cells) rfl (by (have hq := hT.le ho; simp only [List.length_map]; omega)) (Nat.le_of_ble_eq_true rfl))) ?_
 | (refine nameB_dec (fun h => ?_) (fun h => ?_) <;> try simp only [lensB] at h)
 | (refine nameB_cases (fun h => ?_) (fun h => ?_) <;> try simp only [nmL, lensB] at h)
 | refine splitB_true ?_
 | refine splitB_false ?_
 | ((refine Loop_nil 7 1 70 3 rfl rfl (by decide) ?_; refine Loop_at [0, 1] [] (List GotT) (fun got => OnRun rows l got) (fun got => [(7, .own 1)]) (fun got => [(1, ⟨false, 70, 3, got.map GotT.cells⟩)]) (fun got => 9 - got.length) [] ⟨by first | rfl | (simp_all <;> fail) | fail, trivial⟩ ⟨by first | rfl | first | rfl | exact congrArg (fun e => some (AObj.mk _ _ _ e)) (got_snoc rfl) | fail | fail, trivial⟩ (by (try dsimp only); first | (exact OnRun.start) | fail) ?_; (conv => whnf); refine side_and (side_of (by first | exact fun got => rfl | exact fun got => by simp [headOk, closedE, closedO, closedL, AV.closed, hcap.closed, hasId, AObj.box, BK.ofB])) ?_; rintro got hT; try dsimp only at hT))
 | (refine Again_of (got ++ [tellG rows (stepG got l []).2.1]) ⟨by first | rfl | (simp_all <;> fail) | fail, trivial⟩ ⟨by first | rfl | first | rfl | exact congrArg (fun e => some (AObj.mk _ _ _ e)) (got_snoc rfl) | fail | fail, trivial⟩ (by first | (and_intros <;> first | rfl | trivial) | fail) (by first | (and_intros <;> first | rfl | trivial) | fail) rfl rfl rfl (by (try dsimp only); first | (exact hT.next hr ho (by assumption)) | fail) (show _ < _ by (try dsimp only); (have hq := hT.le ho; rw [List.length_append, List.length_singleton]; omega)))
 | refine CallF (c_spec_l5StepF l got ho (hT.ok.okGots ho) (by have hq := hT.le ho; omega)) rfl rfl rfl (Nat.le_of_ble_eq_true rfl) ?_
 | refine Call0 (c_spec_l5Tell rows (stepG got l []).2.1 hl) rfl rfl ?_
 | fail
  all_goals
    conv => whnf
    first
    | (rw [hT.done ho (by assumption), show decide (((got, (stepG got l []).1, (stepG got l []).2.2) : List GotT × Int × List WriteT).2.1 = 3) = true from decide_eq_true (by assumption)]; exact OutA_ids rfl rfl rfl ⟨⟨_, _, _, rfl, rfl⟩, ⟨_, _, _, rfl, rfl⟩, trivial⟩ rfl (.inr (flat_two (flat_map (fun _ => rfl) _) (flat_map (fun _ => rfl) _))))
    | (rw [hT.done ho (by assumption), show decide (((got, (stepG got l []).1, (stepG got l []).2.2) : List GotT × Int × List WriteT).2.1 = 3) = false from decide_eq_false (by assumption)]; exact OutA_ids rfl rfl rfl ⟨⟨_, _, _, rfl, rfl⟩, ⟨_, _, _, rfl, rfl⟩, trivial⟩ rfl (.inr (flat_two (flat_map (fun _ => rfl) _) (flat_map (fun _ => rfl) _))))
    | trace_state
theorem c_spec_RunAlone (rows : List WriteT) (l : List OpT) (hr : okL WriteT.ok rows) (hrl : rows.length ≤ 1048576) (hok : okL OpT.ok l) : PC Tryz.prog false 20 [.sl (rows.map WriteT.cells), .sl (l.map OpT.cells)] (.tup [.own 0, .own 1, .bool (decide ((runR rows l).2.1 = 3)), .bool (runB rows l)]) [⟨false, 70, 3, (runR rows l).1.map GotT.cells⟩, ⟨false, 74, 3, (runR rows l).2.2.map WriteT.cells⟩] := by
  refine pc_at Tryz.func20 rfl (by kernel_rfl) 29 [.tmp 4, .tmp 5, .tmp 6, .tmp 7] rfl rfl ?_
  repeat' (conv => whnf); first
 | (refine nameB_cases (b := okRw rows) (fun h => ?_) (fun h => ?_))
 | (refine nameB_cases (b := okOps l) (fun h => ?_) (fun h => ?_))
 | refine nameB_true ?_
 | refine nameB_false ?_
 | refine splitB_true ?_
 | refine splitB_false ?_
 | refine Call0 (c_spec_l5Rows rows hr) rfl rfl ?_
 | refine Call0 (c_spec_l5Good l hok) rfl rfl ?_
 | refine CallF (c_spec_l5Alone rows l (rw_ok (by assumption)).1.2 hrl (by assumption)) rfl rfl rfl (Nat.le_of_ble_eq_true rfl) ?_
 | fail
  all_goals
    conv => whnf
    first
    | (obtain ⟨e1, e2⟩ := runR_yes (rows := rows) (l := l) (by assumption) (by assumption); rw [e1, e2]; exact OutA_ids rfl rfl rfl ⟨⟨_, _, _, rfl, rfl⟩, ⟨_, _, _, rfl, rfl⟩, trivial⟩ rfl (.inr (flat_two (flat_map (fun _ => rfl) _) (flat_map (fun _ => rfl) _))))
    | (obtain ⟨e1, e2⟩ := runR_no (rows := rows) (l := l) (by first | exact .inl (by assumption) | exact .inr (by assumption)); rw [e1, e2]; exact OutA_nil 4 1 70 3 rfl rfl (by decide) (OutA_nil 5 2 74 3 rfl rfl (by decide) (OutA_ids rfl rfl rfl ⟨⟨_, _, _, rfl, rfl⟩, ⟨_, _, _, rfl, rfl⟩, trivial⟩ rfl (.inr (flat_two (flat_map (fun _ => rfl) _) (flat_map (fun _ => rfl) _))))))
    | trace_state
theorem runF_ok {rows : List WriteT} {l : List OpT} (hr : ∀ w ∈ rows, StOk w) (ho : okOps l = true) : ∀ (f : Nat) (got : List GotT), GotW l got → okGots (runF rows l f got).1 = true ∧ WOk (runF rows l f got).2.2 ∧ (runF rows l f got).2.2.length ≤ 8
  | 0, got, h => ⟨h.okGots ho, WOk.nil, Nat.zero_le _⟩
  | f + 1, got, h => by
    unfold runF
    split
    · rename_i h1
      exact runF_ok hr ho f _ (h.next hr ho h1)
    · have h1 := stepG_ok (h.okGots ho) l [] (okOps_all ho) WOk.nil
      have h2 := okOps_len ho
      have h3 := h1.2
      simp only [List.length_nil] at h3
      exact ⟨h.okGots ho, h1.1, by show (stepG got l []).2.2.length ≤ 8; omega⟩
theorem runR_ok (rows : List WriteT) (l : List OpT) : okGots (runR rows l).1 = true ∧ WOk (runR rows l).2.2 ∧ (runR rows l).2.2.length ≤ 8 := by
  unfold runR
  split
  · rename_i h
    unfold runB at h
    rw [Bool.and_eq_true] at h
    exact runF_ok (rw_ok h.1).1.2 h.2 9 [] GotW.nil
  · exact ⟨rfl, WOk.nil, Nat.zero_le _⟩
theorem got_cnt {gs : List GotT} (hl : gs.length ≤ 1048576) : cntL GotT.cnt gs ≤ 1048576000 := by
  have := cntL_l100 (cnt := GotT.cnt) (fun y => by show 1 + 1 + 1 ≤ 100; omega) gs
  omega
theorem law_RunAlone (a : List WriteT) (g : List OpT) (G : List GotT) (W : List WriteT) (d b : Bool) (hok : okL WriteT.ok a) (hg : okL OpT.ok g) (hG : okL GotT.ok G) (hW : okL WriteT.ok W) (hgg : cntL GotT.cnt G ≤ 1048576000) (hww : cntL WriteT.cnt W ≤ 1048576000)
    (hS : a.length ≤ 1048576 → PC Tryz.prog false 20 [.sl (a.map WriteT.cells), .sl (g.map OpT.cells)] (.tup [.own 0, .own 1, .bool d, .bool b]) [⟨false, 70, 3, G.map GotT.cells⟩, ⟨false, 74, 3, W.map WriteT.cells⟩])
    (hI : a.length ≤ 1048576 → PC Tryz.prog false 22 [.sl (a.map WriteT.cells), .sl (g.map OpT.cells)] (.tup [.own 0, .own 1, .bool d, .bool b]) [⟨false, 70, 3, G.map GotT.cells⟩, ⟨false, 74, 3, W.map WriteT.cells⟩]) :
    PC Tryz.prog false 4 [.sl (a.map WriteT.cells), .sl (g.map OpT.cells)] (.bool true) [] := by
  have hw2 : a.length ≤ wL WriteT.w a := wL_len
  have hw3 : g.length ≤ wL OpT.w g := wL_len
  have hm1 := cntL_w100 (cnt := WriteT.cnt) (w := WriteT.w) (fun y => WriteT.cnt_w y) a
  have hm3 := cntL_w100 (cnt := OpT.cnt) (w := OpT.w) (fun y => OpT.cnt_w y) g
  have hm2 := cntL_len_Write W
  have hm4 := cntL_len_Got G
  refine pc_at Tryz.func4 rfl (by kernel_rfl) 177 [.tmp 4] rfl rfl ?_
  repeat' (conv => whnf); first
 | refine nameB_no (b := !(b == b)) (by simp) ?_
 | refine nameB_no (b := !(d == d)) (by simp) ?_
 | refine nameB_dno (by omega) ?_
 | refine nameB_true ?_
 | refine nameB_false ?_
 | (refine nameB_cases (fun h => ?_) (fun h => ?_) <;> try simp only [nmL, lensB] at h)
 | refine splitB_true ?_
 | refine splitB_false ?_
 | (by_cases hn : (1048576 : Int) - ((wL WriteT.w a : Nat) : Int) < 0 <;> first | refine Call0 (pc_szneg (c_laws_szWriteS a (1048576 : Int) (by omega) (by omega) hok) hn) rfl rfl ?_ | refine Call0 (pc_szpos (c_laws_szWriteS a (1048576 : Int) (by omega) (by omega) hok) hn) rfl rfl ?_)
 | (by_cases hn : (1048576 - ((wL WriteT.w a : Nat) : Int)) - ((wL OpT.w g : Nat) : Int) < 0 <;> first | refine Call0 (pc_szneg (c_laws_szOpS g (1048576 - ((wL WriteT.w a : Nat) : Int)) (by omega) (by omega) hg) hn) rfl rfl ?_ | refine Call0 (pc_szpos (c_laws_szOpS g (1048576 - ((wL WriteT.w a : Nat) : Int)) (by omega) (by omega) hg) hn) rfl rfl ?_)
 | refine CallF (hS (by omega)) rfl rfl rfl (Nat.le_of_ble_eq_true rfl) ?_
 | refine CallF (hI (by omega)) rfl rfl rfl (Nat.le_of_ble_eq_true rfl) ?_
 | refine CallF (c_laws_toWriteS a (by omega)) rfl rfl rfl (Nat.le_of_ble_eq_true rfl) ?_
 | refine CallF (c_laws_toOpS g (by omega)) rfl rfl rfl (Nat.le_of_ble_eq_true rfl) ?_
 | refine Call0 (pc_true (c_laws_eqGotS G G hG) rfl) rfl rfl ?_
 | refine Call0 (pc_true (c_laws_eqWriteS W W hW) rfl) rfl rfl ?_
 | refine Call0 (pc_true (c_laws_eqWriteS a a hok) rfl) rfl rfl ?_
 | refine Call0 (pc_true (c_laws_eqOpS g g hg) rfl) rfl rfl ?_
 | refine CallM1 (m_laws_markWriteS a 1 (by omega) (by omega) (by omega)) [] trivial rfl rfl ?_
 | refine CallM1 (m_laws_markOpS g (1 + (cntL WriteT.cnt a : Int)) (by omega) (by omega) (by omega)) [] trivial rfl rfl ?_
 | refine CallM1 (m_laws_markGotS G 1 (by omega) (by omega) (by omega)) [(45088, GotT.shp)] ⟨⟨_, _, _, rfl, by first | exact prom_map (fun _ => rfl) | exact prom_nil⟩, trivial⟩ rfl rfl ?_
 | refine CallM1 (m_laws_markWriteS W (1 + (cntL GotT.cnt G : Int)) (by omega) (by omega) (by omega)) [(45089, WriteT.shp)] ⟨⟨_, _, _, rfl, by first | exact prom_map (fun _ => rfl) | exact prom_nil⟩, trivial⟩ rfl rfl ?_
 | refine Call0 (c_laws_heldGotS G 1 (by omega) (by omega) (by omega)) rfl rfl ?_
 | refine Call0 (c_laws_heldWriteS W (1 + (cntL GotT.cnt G : Int)) (by omega) (by omega) (by omega)) rfl rfl ?_
 | fail
  all_goals
    conv => whnf
    first
    | (refine OutA_plain rfl rfl ?_; first | rfl | (exfalso; omega) | (exfalso; simp at * <;> omega))
    | trace_state
theorem c_laws_FnExactRunAlone (a : List WriteT) (g : List OpT) (hok : okL WriteT.ok a) (hg : okL OpT.ok g) : PC Tryz.prog false 4 [.sl (a.map WriteT.cells), .sl (g.map OpT.cells)] (.bool true) [] := by
  obtain ⟨h1, h2, h3⟩ := runR_ok a g
  have h4 := got_okL (l := g) h1
  have hGl : (runR a g).1.length ≤ 8 := by
    unfold okGots at h1
    rw [Bool.and_eq_true, decide_eq_true_eq] at h1
    omega
  by_cases hw : a.length ≤ 1048576
  · exact law_RunAlone a g _ _ _ _ hok hg h4 (wok_ok h2 (by omega)) (got_cnt (by omega)) (wok_cnt (by omega)) (fun h => c_spec_RunAlone a g hok h hg) (fun h => c_impl_RunAlone a g hok h hg)
  · exact law_RunAlone a g [] [] false false hok hg ⟨Nat.zero_le _, fun _ h => by cases h⟩ ⟨Nat.zero_le _, fun _ h => by cases h⟩ (by decide) (by decide) (fun h => absurd h hw) (fun h => absurd h hw)
end Go.Proofs.YthbheejeloomjaaGreatDoor
