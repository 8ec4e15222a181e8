/-
  Programs run in turn: the law.
  No condition.
-/
import Derived.Test.YthbheejeloomjaaGreatDoorTurn4
namespace Go.Proofs.YthbheejeloomjaaGreatDoor
open Go.Ab
set_option linter.unusedSimpArgs false
set_option maxRecDepth 20000
set_option maxHeartbeats 4000000
set_option linter.unusedVariables false

theorem law_RunInTurn (a : List WriteT) (g : List (List OpT)) (W : List WriteT) (D : List Bool) (b : Bool) (hok : okL WriteT.ok a) (hg : okL (okL OpT.ok) g) (hW : okL WriteT.ok W) (hD : okL okT D) (hww : cntL WriteT.cnt W ≤ 1048576000) (hdd : D.length ≤ 1048576)
    (hS : a.length ≤ 1048576 → PC Tryz.prog false 25 [.sl (a.map WriteT.cells), .sl (g.map (sC OpT.cells))] (.tup [.own 0, .own 1, .bool b]) [⟨false, 74, 3, W.map WriteT.cells⟩, ⟨false, 4, 1, D.map boolC⟩])
    (hI : a.length ≤ 1048576 → PC Tryz.prog false 27 [.sl (a.map WriteT.cells), .sl (g.map (sC OpT.cells))] (.tup [.own 0, .own 1, .bool b]) [⟨false, 74, 3, W.map WriteT.cells⟩, ⟨false, 4, 1, D.map boolC⟩]) :
    PC Tryz.prog false 5 [.sl (a.map WriteT.cells), .sl (g.map (sC OpT.cells))] (.bool true) [] := by
  have hw2 : a.length ≤ wL WriteT.w a := wL_len
  have hw3 : g.length ≤ wL (wL OpT.w) g := wL_len
  have hm1 := cntL_w100 (cnt := WriteT.cnt) (w := WriteT.w) (fun y => WriteT.cnt_w y) a
  have hm3 := cntL_w100 (cnt := cntL OpT.cnt) (w := wL OpT.w) (fun y => Nat.le_trans (cntL_w100 (cnt := OpT.cnt) (w := OpT.w) (fun z => OpT.cnt_w z) y) (by omega)) g
  have hm2 := cntL_len_Write W
  have hm4 : cntL cnt1 D = D.length := cntL_cnt1
  refine pc_at Tryz.func5 rfl (by kernel_rfl) 156 [.tmp 4] rfl rfl ?_
  repeat' (conv => whnf); first
 | refine nameB_no (b := !(b == b)) (by simp) ?_
 | refine nameB_dno (by omega) ?_
 | refine nameB_true ?_
 | refine nameB_false ?_
 | (refine nameB_cases (fun h => ?_) (fun h => ?_) <;> try simp only [nmL, lensB] at h)
 | refine splitB_true ?_
 | refine splitB_false ?_
 | (by_cases hn : (1048576 : Int) - ((wL WriteT.w a : Nat) : Int) < 0 <;> first | refine Call0 (pc_szneg (c_laws_szWriteS a (1048576 : Int) (by omega) (by omega) hok) hn) rfl rfl ?_ | refine Call0 (pc_szpos (c_laws_szWriteS a (1048576 : Int) (by omega) (by omega) hok) hn) rfl rfl ?_)
 | (by_cases hn : (1048576 - ((wL WriteT.w a : Nat) : Int)) - ((wL (wL OpT.w) g : Nat) : Int) < 0 <;> first | refine Call0 (pc_szneg (c_laws_szOpSS g (1048576 - ((wL WriteT.w a : Nat) : Int)) (by omega) (by omega) hg) hn) rfl rfl ?_ | refine Call0 (pc_szpos (c_laws_szOpSS g (1048576 - ((wL WriteT.w a : Nat) : Int)) (by omega) (by omega) hg) hn) rfl rfl ?_)
 | refine CallF (hS (by omega)) rfl rfl rfl (Nat.le_of_ble_eq_true rfl) ?_
 | refine CallF (hI (by omega)) rfl rfl rfl (Nat.le_of_ble_eq_true rfl) ?_
 | refine CallF (c_laws_toWriteS a (by omega)) rfl rfl rfl (Nat.le_of_ble_eq_true rfl) ?_
 | refine CallF (c_laws_toOpSS g (by omega)) rfl rfl rfl (Nat.le_of_ble_eq_true rfl) ?_
 | refine Call0 (pc_true (c_laws_eqWriteS W W hW) rfl) rfl rfl ?_
 | refine Call0 (pc_true (c_laws_eqBoolS D D hD) rfl) rfl rfl ?_
 | refine Call0 (pc_true (c_laws_eqWriteS a a hok) rfl) rfl rfl ?_
 | refine Call0 (pc_true (c_laws_eqOpSS g g hg) rfl) rfl rfl ?_
 | refine CallM1 (m_laws_markWriteS a 1 (by omega) (by omega) (by omega)) [] trivial rfl rfl ?_
 | refine CallM1 (m_laws_markOpSS g (1 + (cntL WriteT.cnt a : Int)) (by omega) (by omega) (by omega)) [] trivial rfl rfl ?_
 | refine CallM1 (m_laws_markWriteS W 1 (by omega) (by omega) (by omega)) [(45088, WriteT.shp)] ⟨⟨_, _, _, rfl, by first | exact prom_map (fun _ => rfl) | exact prom_nil⟩, trivial⟩ rfl rfl ?_
 | refine CallM1 (m_laws_markBoolS D (1 + (cntL WriteT.cnt W : Int)) (by omega) (by omega) (by omega)) [(45089, [.leaf])] ⟨⟨_, _, _, rfl, by first | exact prom_map (fun _ => rfl) | exact prom_nil⟩, trivial⟩ rfl rfl ?_
 | refine Call0 (c_laws_heldWriteS W 1 (by omega) (by omega) (by omega)) rfl rfl ?_
 | refine Call0 (c_laws_heldBoolS D (1 + (cntL WriteT.cnt W : Int)) (by omega) (by omega) (by omega)) rfl rfl ?_
 | fail
  all_goals
    conv => whnf
    first
    | (refine OutA_plain rfl rfl ?_; first | rfl | (exfalso; omega) | (exfalso; simp at * <;> omega))
    | trace_state
theorem c_laws_FnExactRunInTurn (a : List WriteT) (g : List (List OpT)) (hok : okL WriteT.ok a) (hg : okL (okL OpT.ok) g) : PC Tryz.prog false 5 [.sl (a.map WriteT.cells), .sl (g.map (sC OpT.cells))] (.bool true) [] := by
  obtain ⟨h1, h2, h3⟩ := turnR_ok a g
  by_cases hw : a.length ≤ 1048576
  · exact law_RunInTurn a g _ _ _ hok hg (wok_ok h1 (by omega)) ⟨by omega, fun _ _ => trivial⟩ (wok_cnt (by omega)) (by omega) (fun h => c_spec_RunInTurn a g hok h hg) (fun h => c_impl_RunInTurn a g hok h hg)
  · exact law_RunInTurn a g [] [] false hok hg ⟨Nat.zero_le _, fun _ h => by cases h⟩ ⟨Nat.zero_le _, fun _ h => by cases h⟩ (by decide) (by decide) (fun h => absurd h hw) (fun h => absurd h hw)
end Go.Proofs.YthbheejeloomjaaGreatDoor
