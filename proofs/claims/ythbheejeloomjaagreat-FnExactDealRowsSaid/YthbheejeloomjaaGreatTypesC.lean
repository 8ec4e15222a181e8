/-
  What the laws' functions on StateS, Order, OrderS, Deal give.
  No condition.
-/
import Derived.Test.YthbheejeloomjaaGreatTypesB
import Derived.Test.YthbheejeloomjaaGreatProg
import Derived.KernelRfl
namespace Go.Proofs.YthbheejeloomjaaGreat
open Go.Ab
set_option linter.unusedSimpArgs false
set_option maxRecDepth 20000
set_option maxHeartbeats 4000000
set_option linter.unusedVariables false

theorem c_laws_szStateS (xs : List StateT) (n : Int) (h0 : 0 ≤ n) (h1 : n ≤ 1048576) (hok : (okL StateT.ok) xs) : PC Tryz.prog false 14 [.sl (xs.map StateT.cells), .int .i64 n] (.int .i64 (szN n (wL StateT.w xs))) [] := by
  have hl := hok.1
  refine pc_at Tryz.func14 rfl (by kernel_rfl) 27 [.tmp 4] rfl rfl ?_
  repeat' (conv => whnf); first
 | refine nameB_true ?_
 | refine nameB_dno (by assumption) ?_
 | (refine nameB_dec (fun h => ?_) (fun h => ?_) <;> try simp only [lensB] at h)
 | refine splitB_true ?_
 | refine splitB_false ?_
 | ((refine Loop_at [0] [] (Nat × Int) (fun j => match j with | (k, m) => (0 ≤ m ∧ m ≤ 1048576) ∧ m - (((xs.drop k).map StateT.w).sum : Nat) = n - (wL StateT.w xs : Nat) ∧ k ≤ xs.length) (fun j => match j with | (k, m) => [(1, .int .i64 m), (5, .int .i64 (k : Nat))]) (fun j => match j with | (k, m) => []) (fun j => match j with | (k, m) => xs.length - k) (0, _) ⟨rfl, by first | (simp_all <;> fail) | rfl | fail, trivial⟩ trivial (by (try dsimp only); first | ((simp only [i64_wrap_eq, List.length_map, wL, List.drop_zero] at *; omega)) | fail) ?_; (conv => whnf); refine side_and (side_of (by first | exact fun ⟨k, m⟩ => rfl | exact fun ⟨k, m⟩ => by simp [headOk, closedE, closedO, closedL, AV.closed, hcap.closed, hasId, AObj.box, BK.ofB])) ?_; rintro ⟨k, m⟩ hT; try dsimp only at hT))
 | (refine Again_of (k + 1, _) ⟨rfl, by first | rfl | exact i64_next (by omega) | (simp_all <;> fail) | fail, trivial⟩ trivial (by first | (and_intros <;> first | rfl | trivial) | fail) (by first | (and_intros <;> first | rfl | trivial) | fail) rfl rfl rfl (by (try dsimp only); first | ((have hs := sum_drop StateT.w hx; omega)) | fail) (show _ < _ by (try dsimp only); omega))
 | ((by_cases hn : m - (StateT.w x : Nat) < 0 <;> first | refine Call0 (pc_szneg (c_laws_szState x m hT.1.1 hT.1.2 (hok.2 x (List.mem_of_getElem? hx))) hn) rfl rfl ?_ | refine Call0 (pc_szpos (c_laws_szState x m hT.1.1 hT.1.2 (hok.2 x (List.mem_of_getElem? hx))) hn) rfl rfl ?_))
 | (refine ix_map (by omega) (by (try simp only [List.length_take]); omega) (fun x hx => ?_); try simp only [Int.toNat_natCast] at hx)
 | refine side_and (side_of (by first | (and_intros <;> first | exact Nat.le_of_ble_eq_true rfl | rfl | omega | (simp only [lensB, lensC]; omega) | exact bytes_ok (Nat.le_of_ble_eq_true rfl) (by omega) (by simp only [lensB, lensC]; omega) | exact bytes_okN (Nat.le_of_ble_eq_true rfl) (by simp only [lensB, lensC]; omega)) | fail)) ?_
 | fail
  all_goals
    conv => whnf
    refine OutA_plain rfl rfl ?_
    refine congrArg (AV.int .i64) ?_
    first
    | (have hs := sum_drop StateT.w hx; exact szN_neg (by omega))
    | (have hs := sum_end StateT.w (xs := xs) (k := k) (by omega); exact szN_pos (by omega) (by omega))
    | (have hs : wL StateT.w xs = xs.length + (xs.map StateT.w).sum := rfl; simp only [i64_wrap_eq] at *; exact szN_neg (by omega))
theorem c_laws_toStateS (xs : List StateT) (hw : wL StateT.w xs ≤ 1048576) : PC Tryz.prog false 22 [.sl (xs.map StateT.cells)] (.own 0) [⟨.deep StateT.shp, 50, 4, xs.map StateT.cells⟩] := by
  have hl : xs.length ≤ 1048576 := Nat.le_trans wL_len hw
  refine pc_at Tryz.func22 rfl (by kernel_rfl) 23 [.tmp 2] rfl rfl ?_
  repeat' (conv => whnf); first
 | (refine nameB_dec (fun h => ?_) (fun h => ?_) <;> try simp only [lensB] at h)
 | refine splitB_true ?_
 | refine splitB_false ?_
 | ((refine Loop_prom [(4128, StateT.shp)] ⟨⟨_, _, _, rfl, by first | exact prom_nil | exact prom_rep rfl | exact prom_map (fun _ => rfl) | exact prom_one rfl⟩, trivial⟩ ?_; refine Loop_at [0, 3] [] (Nat) (fun k => True ∧ k ≤ xs.length) (fun k => [(4, .int .i64 (k : Nat))]) (fun k => [(4128, ⟨.deep StateT.shp, 50, 4, (xs.take k).map StateT.cells ++ List.replicate (xs.length - k) [.int .i64 0, .nil, .nil, .nil]⟩)]) (fun k => xs.length - k) 0 ⟨by first | (simp_all <;> fail) | rfl | fail, trivial⟩ ⟨by first | rfl | exact congrArg (fun e => some (AObj.mk _ _ _ e)) (set_rep hx) | exact congrArg (fun e => some (AObj.mk _ _ _ e)) start_rep | fail | fail, trivial⟩ (by (try dsimp only); first | trivial | (refine ⟨?_, by omega⟩; simp <;> fail) | (simp <;> fail) | fail) ?_; (conv => whnf); refine side_and (side_of (by first | exact fun k => rfl | exact fun k => by simp [headOk, closedE, closedO, closedL, AV.closed, hcap.closed, hasId, AObj.box, BK.ofB])) ?_; rintro k hT; try dsimp only at hT))
 | (refine Again_of (k + 1) ⟨by first | rfl | exact i64_next (by omega) | (simp_all <;> fail) | fail, trivial⟩ ⟨by first | rfl | exact congrArg (fun e => some (AObj.mk _ _ _ e)) (set_rep hx) | exact congrArg (fun e => some (AObj.mk _ _ _ e)) start_rep | fail | fail, trivial⟩ (by first | (and_intros <;> first | rfl | trivial) | fail) (by first | (and_intros <;> first | rfl | trivial) | fail) rfl rfl rfl (by (try dsimp only); first | (exact ⟨trivial, by omega⟩) | fail) (show _ < _ by (try dsimp only); omega))
 | refine CallF (c_laws_toState x (Nat.le_trans (wL_mem (List.mem_of_getElem? hx)).2 hw)) rfl rfl rfl (Nat.le_of_ble_eq_true rfl) ?_
 | (refine ix_map (by omega) (by (try simp only [List.length_take]); omega) (fun x hx => ?_); try simp only [Int.toNat_natCast] at hx)
 | refine side_and (side_of (by first | (and_intros <;> first | exact Nat.le_of_ble_eq_true rfl | rfl | omega | (simp only [lensB, lensC]; omega) | exact bytes_ok (Nat.le_of_ble_eq_true rfl) (by omega) (by simp only [lensB, lensC]; omega) | exact bytes_okN (Nat.le_of_ble_eq_true rfl) (by simp only [lensB, lensC]; omega)) | fail)) ?_
 | refine StoreD_of rfl rfl rfl ?_
 | refine ix_rep (by simp; omega) (by omega) ?_
 | fail
  all_goals
    conv => whnf
    exact OutA_deep rfl rfl rfl ⟨⟨congrArg (fun e => some (AObj.mk _ _ _ e)) (full_rep (by omega)), rfl⟩, trivial⟩ rfl
theorem c_laws_eqStateS (xs ys : List StateT) (hok : (okL StateT.ok) xs) : PC Tryz.prog false 29 [.sl (xs.map StateT.cells), .sl (ys.map StateT.cells)] (.bool (decide (xs = ys))) [] := by
  have hl := hok.1
  refine pc_at Tryz.func29 rfl (by kernel_rfl) 27 [.tmp 4] rfl rfl ?_
  repeat' (conv => whnf); first
 | refine nameB_true ?_
 | refine nameB_false ?_
 | (refine nameB_dec (fun h => ?_) (fun h => ?_) <;> try simp only [lensB] at h)
 | (refine nameB_cases (fun h => ?_) (fun h => ?_) <;> try simp only [nmL, lensB] at h)
 | refine splitB_true ?_
 | refine splitB_false ?_
 | refine draw_text (by kernel_rfl) (by kernel_rfl) (by kernel_rfl) ?_
 | ((refine Loop_at [0, 1] [] (Nat) (fun k => xs.take k = ys.take k ∧ k ≤ xs.length) (fun k => [(5, .int .i64 (k : Nat))]) (fun k => []) (fun k => xs.length - k) 0 ⟨by first | (simp_all <;> fail) | rfl | fail, trivial⟩ trivial (by (try dsimp only); first | trivial | (refine ⟨?_, by omega⟩; simp <;> fail) | (simp <;> fail) | fail) ?_; (conv => whnf); refine side_and (side_of (by first | exact fun k => rfl | exact fun k => by simp [headOk, closedE, closedO, closedL, AV.closed, hcap.closed, hasId, AObj.box, BK.ofB])) ?_; rintro k hT; try dsimp only at hT))
 | (refine Again_of (k + 1) ⟨by first | rfl | exact i64_next (by omega) | (simp_all <;> fail) | fail, trivial⟩ trivial (by first | (and_intros <;> first | rfl | trivial) | fail) (by first | (and_intros <;> first | rfl | trivial) | fail) rfl rfl rfl (by (try dsimp only); first | (exact ⟨take_next hT.1 hx hy (by assumption), by omega⟩) | fail) (show _ < _ by (try dsimp only); omega))
 | refine CallD0 (c_laws_eqState x y (hok.2 x (List.mem_of_getElem? hx))) rfl rfl rfl ?_
 | (refine ix_map2 hx (by omega) (by (try simp only [List.length_take]); omega) (fun y hy => ?_); try simp only [Int.toNat_natCast] at hy)
 | (refine ix_map (by omega) (by (try simp only [List.length_take]); omega) (fun x hx => ?_); try simp only [Int.toNat_natCast] at hx)
 | refine side_and (side_of (by first | (and_intros <;> first | exact Nat.le_of_ble_eq_true rfl | rfl | omega | (simp only [lensB, lensC]; omega) | exact bytes_ok (Nat.le_of_ble_eq_true rfl) (by omega) (by simp only [lensB, lensC]; omega) | exact bytes_okN (Nat.le_of_ble_eq_true rfl) (by simp only [lensB, lensC]; omega)) | fail)) ?_
 | refine LoadK_of rfl rfl ?_
 | fail
  all_goals
    conv => whnf
    refine OutA_plain rfl rfl ?_
    first
    | exact bool_no (len_ne (by omega))
    | exact bool_no (get_ne hx hy (by assumption))
    | exact bool_yes (take_all_eq hT.1 (by omega) (by omega))
theorem m_laws_markStateS (xs : List StateT) (k : Int) (h0 : 0 ≤ k) (h1 : k + (cntL StateT.cnt xs : Int) ≤ 1152921504606846976) (hl : xs.length ≤ 1152921504606846976) : MC Tryz.prog 32 false [.sl (xs.map StateT.cells)] [.sl 50 4 StateT.shp] k [.sl ((mkL StateT.mkM StateT.cnt xs k).map StateT.cells)] (k + (cntL StateT.cnt xs : Int)) := by
  refine mc_of Tryz.func32 rfl (by kernel_rfl) 41 [.tmp 4] [.own 0] rfl rfl (fun e => by first | rfl | cases e) rfl rfl ?_
  repeat' (conv => whnf); first
 | (show Go.Ab.StoreD _ _ _ 0 _ _ _ _ _; refine StoreD_cut (off := 0) [(0, .own 0), (1, .int .i64 ((k + (cntL StateT.cnt (xs.take i) : Int)))), (5, .int .i64 (i : Nat))] [(0, ⟨.deep StateT.shp, 50, 4, (((midL StateT.mkM StateT.cnt xs k i).map StateT.cells).set i [.int .i64 ((k + (cntL StateT.cnt (xs.take i) : Int))), .sl (x.Cells.map CellT.cells), .sl (x.Held.map HeldT.cells), .sl (x.Told.map ToldT.cells)])⟩)] rfl rfl ⟨rfl, (by first | rfl | exact congrArg (AV.int IntKind.i64) (by first | (have hle := cntL_le (cnt := StateT.cnt) hx; have hcx : StateT.cnt x = 1 + cntL CellT.cnt x.Cells + cntL HeldT.cnt x.Held + cntL ToldT.cnt x.Told := rfl; first | (simp (disch := omega) only [i64w] <;> fail) | (simp (disch := omega) only [i64w]; omega)) | fail) | fail), rfl, trivial⟩ rfl ⟨congrArg (fun l => some (AObj.mk _ _ _ l)) (by first | (have hle := cntL_le (cnt := StateT.cnt) hx; have hcx : StateT.cnt x = 1 + cntL CellT.cnt x.Cells + cntL HeldT.cnt x.Held + cntL ToldT.cnt x.Told := rfl; (try simp only [List.set_set, Int.toNat_natCast]); refine congrArg (List.set _ _) ?_; ((repeat' refine cells_eq ?_ ?_) <;> first | rfl | (refine congrArg (AV.int IntKind.i64) ?_; simp (disch := omega) only [i64w]; first | done | rfl) | (refine congrArg AV.str (congrArg mText ?_); simp (disch := omega) only [i64w]; first | done | rfl) | (refine congrArg AV.bool ?_; simp (disch := omega) only [i64w]; first | done | rfl) | (refine congrArg AV.sl ?_; simp (disch := omega) only [i64w]; first | done | rfl))) | fail), trivial⟩ rfl rfl ⟨rfl, by simp⟩ ?_)
 | (refine nameB_dec (fun h => ?_) (fun h => ?_) <;> try simp only [lensB] at h)
 | refine splitB_true ?_
 | refine splitB_false ?_
 | ((refine Loop_at [0] [] (Nat) (fun i => i ≤ xs.length) (fun i => [(1, .int .i64 (k + (cntL StateT.cnt (xs.take i) : Int))), (5, .int .i64 (i : Nat))]) (fun i => [(0, ⟨.deep StateT.shp, 50, 4, (midL StateT.mkM StateT.cnt xs k i).map StateT.cells⟩)]) (fun i => xs.length - i) 0 ⟨by first | first | exact cnt0_eq | exact congrArg (AV.int IntKind.i64) (by first | (have hle := cntL_le (cnt := StateT.cnt) hx; have hcx : StateT.cnt x = 1 + cntL CellT.cnt x.Cells + cntL HeldT.cnt x.Held + cntL ToldT.cnt x.Told := rfl; rw [cntL_take hx]; (try simp (disch := omega) only [i64w]); omega) | fail) | rfl | fail, by first | first | exact cnt0_eq | exact congrArg (AV.int IntKind.i64) (by first | (have hle := cntL_le (cnt := StateT.cnt) hx; have hcx : StateT.cnt x = 1 + cntL CellT.cnt x.Cells + cntL HeldT.cnt x.Held + cntL ToldT.cnt x.Told := rfl; rw [cntL_take hx]; (try simp (disch := omega) only [i64w]); omega) | fail) | rfl | fail, trivial⟩ ⟨by first | rfl | first | exact congrArg (fun e => some (AObj.mk _ _ _ e)) (congrArg (List.map StateT.cells) midL_zero.symm) | exact congrArg (fun e => some (AObj.mk _ _ _ e)) (by first | (refine midL_next hx ?_; rfl) | fail) | fail | fail, trivial⟩ (by (try dsimp only); first | (exact Nat.zero_le _) | fail) ?_; (conv => whnf); refine side_and (side_of (by first | exact fun i => rfl | exact fun i => by simp [headOk, closedE, closedO, closedL, AV.closed, hcap.closed, hasId, AObj.box, BK.ofB])) ?_; rintro i hM; try dsimp only at hM))
 | (refine Again_of (i + 1) ⟨by first | first | exact cnt0_eq | exact congrArg (AV.int IntKind.i64) (by first | (have hle := cntL_le (cnt := StateT.cnt) hx; have hcx : StateT.cnt x = 1 + cntL CellT.cnt x.Cells + cntL HeldT.cnt x.Held + cntL ToldT.cnt x.Told := rfl; rw [cntL_take hx]; (try simp (disch := omega) only [i64w]); omega) | fail) | rfl | fail, by first | rfl | exact i64_next (by omega) | first | exact cnt0_eq | exact congrArg (AV.int IntKind.i64) (by first | (have hle := cntL_le (cnt := StateT.cnt) hx; have hcx : StateT.cnt x = 1 + cntL CellT.cnt x.Cells + cntL HeldT.cnt x.Held + cntL ToldT.cnt x.Told := rfl; rw [cntL_take hx]; (try simp (disch := omega) only [i64w]); omega) | fail) | fail, trivial⟩ ⟨by first | rfl | first | exact congrArg (fun e => some (AObj.mk _ _ _ e)) (congrArg (List.map StateT.cells) midL_zero.symm) | exact congrArg (fun e => some (AObj.mk _ _ _ e)) (by first | (refine midL_next hx ?_; rfl) | fail) | fail | fail, trivial⟩ (by first | (and_intros <;> first | rfl | trivial) | fail) (by first | (and_intros <;> first | rfl | trivial) | fail) rfl rfl rfl (by (try dsimp only); first | ((show i + 1 ≤ _; omega)) | fail) (show _ < _ by (try dsimp only); omega))
 | (show Go.Ab.CallA _ _ [_, _] _ _ _ _; refine CallMc_cut (off := 1) (es2 := (((midL StateT.mkM StateT.cnt xs k i).map StateT.cells).set i [.int .i64 ((k + (cntL StateT.cnt (xs.take i) : Int))), .sl ((mkL CellT.mkM CellT.cnt x.Cells ((k + (cntL StateT.cnt (xs.take i) : Int)) + 1)).map CellT.cells), .sl (x.Held.map HeldT.cells), .sl (x.Told.map ToldT.cells)])) (k := (k + (cntL StateT.cnt (xs.take i) : Int)) + 1) (k' := (k + (cntL StateT.cnt (xs.take i) : Int)) + 1 + (cntL CellT.cnt x.Cells : Int)) [(0, .own 0), (5, .int .i64 (i : Nat))] (by first | rfl | (have hle := cntL_le (cnt := StateT.cnt) hx; have hcx : StateT.cnt x = 1 + cntL CellT.cnt x.Cells + cntL HeldT.cnt x.Held + cntL ToldT.cnt x.Told := rfl; first | (simp (disch := omega) only [i64w] <;> fail) | (simp (disch := omega) only [i64w]; omega)) | fail) (m_laws_markCellS x.Cells ((k + (cntL StateT.cnt (xs.take i) : Int)) + 1) (by first | (have hle := cntL_le (cnt := StateT.cnt) hx; have hcx : StateT.cnt x = 1 + cntL CellT.cnt x.Cells + cntL HeldT.cnt x.Held + cntL ToldT.cnt x.Told := rfl; first | omega | (simp (disch := omega) only [i64w]; omega)) | fail) (by first | (have hle := cntL_le (cnt := StateT.cnt) hx; have hcx : StateT.cnt x = 1 + cntL CellT.cnt x.Cells + cntL HeldT.cnt x.Held + cntL ToldT.cnt x.Told := rfl; first | omega | (simp (disch := omega) only [i64w]; omega)) | fail) (by first | (have hle := cntL_le (cnt := StateT.cnt) hx; have hcx : StateT.cnt x = 1 + cntL CellT.cnt x.Cells + cntL HeldT.cnt x.Held + cntL ToldT.cnt x.Told := rfl; have hll := cntL_len_Cell x.Cells; omega) | fail)) (by rfl) (by first | exact mid_at hx | (refine setN_at ?_; simp only [List.length_set, List.length_map, midL_len]; omega) | fail) (by rfl) ⟨rfl, rfl, trivial⟩ rfl (by first | (have hle := cntL_le (cnt := StateT.cnt) hx; have hcx : StateT.cnt x = 1 + cntL CellT.cnt x.Cells + cntL HeldT.cnt x.Held + cntL ToldT.cnt x.Told := rfl; (try simp only [List.set_set, Int.toNat_natCast]); refine congrArg (List.set _ _) ?_; ((repeat' refine cells_eq ?_ ?_) <;> first | rfl | (refine congrArg (AV.int IntKind.i64) ?_; simp (disch := omega) only [i64w]; first | done | rfl) | (refine congrArg AV.str (congrArg mText ?_); simp (disch := omega) only [i64w]; first | done | rfl) | (refine congrArg AV.bool ?_; simp (disch := omega) only [i64w]; first | done | rfl) | (refine congrArg AV.sl ?_; simp (disch := omega) only [i64w]; first | done | rfl))) | fail) rfl rfl ?_)
 | (show Go.Ab.CallA _ _ [_, _] _ _ _ _; refine CallMc_cut (off := 2) (es2 := (((midL StateT.mkM StateT.cnt xs k i).map StateT.cells).set i [.int .i64 ((k + (cntL StateT.cnt (xs.take i) : Int))), .sl ((mkL CellT.mkM CellT.cnt x.Cells ((k + (cntL StateT.cnt (xs.take i) : Int)) + 1)).map CellT.cells), .sl ((mkL HeldT.mkM HeldT.cnt x.Held ((k + (cntL StateT.cnt (xs.take i) : Int)) + 1 + (cntL CellT.cnt x.Cells : Int))).map HeldT.cells), .sl (x.Told.map ToldT.cells)])) (k := (k + (cntL StateT.cnt (xs.take i) : Int)) + 1 + (cntL CellT.cnt x.Cells : Int)) (k' := (k + (cntL StateT.cnt (xs.take i) : Int)) + 1 + (cntL CellT.cnt x.Cells : Int) + (cntL HeldT.cnt x.Held : Int)) [(0, .own 0), (5, .int .i64 (i : Nat))] (by first | rfl | (have hle := cntL_le (cnt := StateT.cnt) hx; have hcx : StateT.cnt x = 1 + cntL CellT.cnt x.Cells + cntL HeldT.cnt x.Held + cntL ToldT.cnt x.Told := rfl; first | (simp (disch := omega) only [i64w] <;> fail) | (simp (disch := omega) only [i64w]; omega)) | fail) (m_laws_markHeldS x.Held ((k + (cntL StateT.cnt (xs.take i) : Int)) + 1 + (cntL CellT.cnt x.Cells : Int)) (by first | (have hle := cntL_le (cnt := StateT.cnt) hx; have hcx : StateT.cnt x = 1 + cntL CellT.cnt x.Cells + cntL HeldT.cnt x.Held + cntL ToldT.cnt x.Told := rfl; first | omega | (simp (disch := omega) only [i64w]; omega)) | fail) (by first | (have hle := cntL_le (cnt := StateT.cnt) hx; have hcx : StateT.cnt x = 1 + cntL CellT.cnt x.Cells + cntL HeldT.cnt x.Held + cntL ToldT.cnt x.Told := rfl; first | omega | (simp (disch := omega) only [i64w]; omega)) | fail) (by first | (have hle := cntL_le (cnt := StateT.cnt) hx; have hcx : StateT.cnt x = 1 + cntL CellT.cnt x.Cells + cntL HeldT.cnt x.Held + cntL ToldT.cnt x.Told := rfl; have hll := cntL_len_Held x.Held; omega) | fail)) (by rfl) (by first | exact mid_at hx | (refine setN_at ?_; simp only [List.length_set, List.length_map, midL_len]; omega) | fail) (by rfl) ⟨rfl, rfl, trivial⟩ rfl (by first | (have hle := cntL_le (cnt := StateT.cnt) hx; have hcx : StateT.cnt x = 1 + cntL CellT.cnt x.Cells + cntL HeldT.cnt x.Held + cntL ToldT.cnt x.Told := rfl; (try simp only [List.set_set, Int.toNat_natCast]); refine congrArg (List.set _ _) ?_; ((repeat' refine cells_eq ?_ ?_) <;> first | rfl | (refine congrArg (AV.int IntKind.i64) ?_; simp (disch := omega) only [i64w]; first | done | rfl) | (refine congrArg AV.str (congrArg mText ?_); simp (disch := omega) only [i64w]; first | done | rfl) | (refine congrArg AV.bool ?_; simp (disch := omega) only [i64w]; first | done | rfl) | (refine congrArg AV.sl ?_; simp (disch := omega) only [i64w]; first | done | rfl))) | fail) rfl rfl ?_)
 | (show Go.Ab.CallA _ _ [_, _] _ _ _ _; refine CallMc_cut (off := 3) (es2 := (((midL StateT.mkM StateT.cnt xs k i).map StateT.cells).set i [.int .i64 ((k + (cntL StateT.cnt (xs.take i) : Int))), .sl ((mkL CellT.mkM CellT.cnt x.Cells ((k + (cntL StateT.cnt (xs.take i) : Int)) + 1)).map CellT.cells), .sl ((mkL HeldT.mkM HeldT.cnt x.Held ((k + (cntL StateT.cnt (xs.take i) : Int)) + 1 + (cntL CellT.cnt x.Cells : Int))).map HeldT.cells), .sl ((mkL ToldT.mkM ToldT.cnt x.Told ((k + (cntL StateT.cnt (xs.take i) : Int)) + 1 + (cntL CellT.cnt x.Cells : Int) + (cntL HeldT.cnt x.Held : Int))).map ToldT.cells)])) (k := (k + (cntL StateT.cnt (xs.take i) : Int)) + 1 + (cntL CellT.cnt x.Cells : Int) + (cntL HeldT.cnt x.Held : Int)) (k' := (k + (cntL StateT.cnt (xs.take i) : Int)) + 1 + (cntL CellT.cnt x.Cells : Int) + (cntL HeldT.cnt x.Held : Int) + (cntL ToldT.cnt x.Told : Int)) [(0, .own 0), (5, .int .i64 (i : Nat))] (by first | rfl | (have hle := cntL_le (cnt := StateT.cnt) hx; have hcx : StateT.cnt x = 1 + cntL CellT.cnt x.Cells + cntL HeldT.cnt x.Held + cntL ToldT.cnt x.Told := rfl; first | (simp (disch := omega) only [i64w] <;> fail) | (simp (disch := omega) only [i64w]; omega)) | fail) (m_laws_markToldS x.Told ((k + (cntL StateT.cnt (xs.take i) : Int)) + 1 + (cntL CellT.cnt x.Cells : Int) + (cntL HeldT.cnt x.Held : Int)) (by first | (have hle := cntL_le (cnt := StateT.cnt) hx; have hcx : StateT.cnt x = 1 + cntL CellT.cnt x.Cells + cntL HeldT.cnt x.Held + cntL ToldT.cnt x.Told := rfl; first | omega | (simp (disch := omega) only [i64w]; omega)) | fail) (by first | (have hle := cntL_le (cnt := StateT.cnt) hx; have hcx : StateT.cnt x = 1 + cntL CellT.cnt x.Cells + cntL HeldT.cnt x.Held + cntL ToldT.cnt x.Told := rfl; first | omega | (simp (disch := omega) only [i64w]; omega)) | fail) (by first | (have hle := cntL_le (cnt := StateT.cnt) hx; have hcx : StateT.cnt x = 1 + cntL CellT.cnt x.Cells + cntL HeldT.cnt x.Held + cntL ToldT.cnt x.Told := rfl; have hll := cntL_len_Told x.Told; omega) | fail)) (by rfl) (by first | exact mid_at hx | (refine setN_at ?_; simp only [List.length_set, List.length_map, midL_len]; omega) | fail) (by rfl) ⟨rfl, rfl, trivial⟩ rfl (by first | (have hle := cntL_le (cnt := StateT.cnt) hx; have hcx : StateT.cnt x = 1 + cntL CellT.cnt x.Cells + cntL HeldT.cnt x.Held + cntL ToldT.cnt x.Told := rfl; (try simp only [List.set_set, Int.toNat_natCast]); refine congrArg (List.set _ _) ?_; ((repeat' refine cells_eq ?_ ?_) <;> first | rfl | (refine congrArg (AV.int IntKind.i64) ?_; simp (disch := omega) only [i64w]; first | done | rfl) | (refine congrArg AV.str (congrArg mText ?_); simp (disch := omega) only [i64w]; first | done | rfl) | (refine congrArg AV.bool ?_; simp (disch := omega) only [i64w]; first | done | rfl) | (refine congrArg AV.sl ?_; simp (disch := omega) only [i64w]; first | done | rfl))) | fail) rfl rfl ?_)
 | refine side_and (side_of (by first | (and_intros <;> first | exact Nat.le_of_ble_eq_true rfl | rfl | omega | (simp only [lensB, lensC]; omega) | exact bytes_ok (Nat.le_of_ble_eq_true rfl) (by omega) (by simp only [lensB, lensC]; omega) | exact bytes_okN (Nat.le_of_ble_eq_true rfl) (by simp only [lensB, lensC]; omega)) | fail)) ?_
 | refine LoadD_cel rfl rfl rfl rfl ?_
 | refine ix_setN (by simp only [List.length_set, List.length_map, midL_len]; omega) ?_
 | refine ix_mid (by omega) (fun x hx => ?_)
 | fail
  all_goals
    conv => whnf
    refine OutM_of (by rfl) (by rfl) (by rfl) ?_ ?_
    · exact congrArg (fun n : Nat => AV.int .i64 (k + (n : Int))) (cntL_end (by omega))
    · exact congrArg (fun l => [AV.sl (List.map StateT.cells l)]) (midL_end (by omega))
structure OrderT where
  Txn : Int
  Reads : List (List UInt8)
  Writes : List WriteT
deriving DecidableEq
def OrderT.cells (x : OrderT) : List AV := [.int .i64 x.Txn, .sl (x.Reads.map strC), .sl (x.Writes.map WriteT.cells)]
def OrderT.ok (x : OrderT) : Prop := okT x.Txn ∧ (okL okS) x.Reads ∧ (okL WriteT.ok) x.Writes
def OrderT.w (x : OrderT) : Nat := wL List.length x.Reads + wL WriteT.w x.Writes
theorem OrderT.same {x y : OrderT} (hTxn : x.Txn = y.Txn) (hReads : x.Reads = y.Reads) (hWrites : x.Writes = y.Writes) : x = y := by cases x; cases y; simp_all
theorem open_Order : ∀ n cs, Sh Tryz.prog n 76 cs → ∃ x : OrderT, cs = OrderT.cells x ∧ OrderT.ok x := by
  intro n cs h
  cases n with
  | zero => unfold Sh at h; exact h.elim
  | succ n =>
    unfold Sh at h
    rw [Tryz.underlying76] at h
    simp only [ShL] at h
    obtain ⟨y0, z0, rfl, g0, y1, z1, rfl, g1, y2, z2, rfl, g2, rfl⟩ := h
    obtain ⟨x0, rfl, o0⟩ := open_int Tryz.underlying3 _ _ g0
    obtain ⟨x1, rfl, o1⟩ := open_list Tryz.underlying22 (open_str Tryz.underlying9) _ _ g1
    obtain ⟨x2, rfl, o2⟩ := open_list Tryz.underlying74 (open_Write) _ _ g2
    exact ⟨⟨x0, x1, x2⟩, rfl, o0, o1, o2⟩
def OrderT.shp : List Shp := [.leaf, .sl 9 1 [.leaf], .sl 53 3 WriteT.shp]
def OrderT.mkM (x : OrderT) (k : Int) : OrderT := ⟨k, mkL mkStr cnt1 x.Reads (k + 1), mkL WriteT.mkM WriteT.cnt x.Writes (k + 1 + (cntL cnt1 x.Reads : Int))⟩
def OrderT.cnt (x : OrderT) : Nat := 1 + cntL cnt1 x.Reads + cntL WriteT.cnt x.Writes
theorem cntL_len_Order (xs : List OrderT) : xs.length ≤ cntL OrderT.cnt xs := by
  induction xs with
  | nil => exact Nat.zero_le _
  | cons x xs ih =>
    simp only [cntL, List.map_cons, List.sum_cons, List.length_cons] at ih ⊢
    have hcx : OrderT.cnt x = 1 + cntL cnt1 x.Reads + cntL WriteT.cnt x.Writes := rfl
    omega
def OrderT.mkS (x : OrderT) (k : Int) : OrderT := ⟨x.Txn, mkL mkStr cnt1 x.Reads k, mkL WriteT.mkM WriteT.cnt x.Writes (k + (cntL cnt1 x.Reads : Int))⟩
def OrderT.cntS (x : OrderT) (k : Int) : Int := k + (cntL cnt1 x.Reads : Int) + (cntL WriteT.cnt x.Writes : Int)
theorem OrderT.cnt_w (x : OrderT) : OrderT.cnt x ≤ 100 * (1 + OrderT.w x) := by
  have h0 := cntL_w100 (cnt := cnt1) (w := List.length) (fun _ => one_w100) x.Reads
  have h1 := cntL_w100 (cnt := WriteT.cnt) (w := WriteT.w) (fun y => WriteT.cnt_w y) x.Writes
  simp only [OrderT.cnt, OrderT.w] at *
  omega
theorem OrderT.cntS_w (x : OrderT) (k : Int) : OrderT.cntS x k ≤ k + 100 * (1 + (OrderT.w x : Int)) := by
  have h0 := cntL_w100 (cnt := cnt1) (w := List.length) (fun _ => one_w100) x.Reads
  have h1 := cntL_w100 (cnt := WriteT.cnt) (w := WriteT.w) (fun y => WriteT.cnt_w y) x.Writes
  simp only [OrderT.cntS, OrderT.cnt, OrderT.w] at *
  omega
theorem c_laws_szOrder (x : OrderT) (n : Int) (h0 : 0 ≤ n) (h1 : n ≤ 1048576) (hok : x.ok) : PC Tryz.prog false 36 [.agg x.cells, .int .i64 n] (.int .i64 (szN n x.w)) [] := by
  have oReads : (okL okS) x.Reads := hok.2.1
  have oWrites : (okL WriteT.ok) x.Writes := hok.2.2
  have hw : x.w = wL List.length x.Reads + wL WriteT.w x.Writes := rfl
  refine pc_at Tryz.func36 rfl (by kernel_rfl) 18 [.tmp 4] rfl rfl ?_
  repeat' (conv => whnf); first
 | refine nameB_true ?_
 | refine nameB_dno (by assumption) ?_
 | refine splitB_true ?_
 | refine splitB_false ?_
 | (by_cases hn0 : n - ((wL List.length x.Reads : Nat) : Int) < 0 <;> first | refine Call0 (pc_szneg (c_laws_szStringS x.Reads n (by (try simp only [i64_wrap_eq] at *); omega) (by (try simp only [i64_wrap_eq] at *); omega) oReads) hn0) rfl rfl ?_ | refine Call0 (pc_szpos (c_laws_szStringS x.Reads n (by (try simp only [i64_wrap_eq] at *); omega) (by (try simp only [i64_wrap_eq] at *); omega) oReads) hn0) rfl rfl ?_)
 | (by_cases hn1 : (n - ((wL List.length x.Reads : Nat) : Int)) - ((wL WriteT.w x.Writes : Nat) : Int) < 0 <;> first | refine Call0 (pc_szneg (c_laws_szWriteS x.Writes (n - ((wL List.length x.Reads : Nat) : Int)) (by (try simp only [i64_wrap_eq] at *); omega) (by (try simp only [i64_wrap_eq] at *); omega) oWrites) hn1) rfl rfl ?_ | refine Call0 (pc_szpos (c_laws_szWriteS x.Writes (n - ((wL List.length x.Reads : Nat) : Int)) (by (try simp only [i64_wrap_eq] at *); omega) (by (try simp only [i64_wrap_eq] at *); omega) oWrites) hn1) rfl rfl ?_)
 | refine side_and (side_of (by first | (and_intros <;> first | exact Nat.le_of_ble_eq_true rfl | rfl | omega | (simp only [lensB, lensC]; omega) | exact bytes_ok (Nat.le_of_ble_eq_true rfl) (by omega) (by simp only [lensB, lensC]; omega) | exact bytes_okN (Nat.le_of_ble_eq_true rfl) (by simp only [lensB, lensC]; omega)) | fail)) ?_
 | fail
  all_goals
    conv => whnf
    refine OutA_plain rfl rfl ?_
    refine congrArg (AV.int .i64) ?_
    (try simp only [i64_wrap_eq] at *)
    first | exact szN_neg (by omega) | exact szN_pos (by omega) (by omega)
theorem c_laws_toOrder (x : OrderT) (hw : OrderT.w x ≤ 1048576) : PC Tryz.prog false 44 [.agg x.cells] (.agg [.int .i64 x.Txn, .own 0, .own 1]) [⟨.deep [.leaf], 9, 1, (x.Reads.map strC)⟩, ⟨.deep WriteT.shp, 53, 3, (x.Writes.map WriteT.cells)⟩] := by
  have hw2 : x.w = wL List.length x.Reads + wL WriteT.w x.Writes := rfl
  refine pc_at Tryz.func44 rfl (by kernel_rfl) 16 [.cell 2 91] rfl rfl ?_
  repeat' (conv => whnf); first
 | refine CallF (c_laws_toStringS x.Reads (by omega)) rfl rfl rfl (Nat.le_of_ble_eq_true rfl) ?_
 | refine CallF (c_laws_toWriteS x.Writes (by omega)) rfl rfl rfl (Nat.le_of_ble_eq_true rfl) ?_
 | refine side_and (side_of (by first | (and_intros <;> first | exact Nat.le_of_ble_eq_true rfl | rfl | omega | (simp only [lensB, lensC]; omega) | exact bytes_ok (Nat.le_of_ble_eq_true rfl) (by omega) (by simp only [lensB, lensC]; omega) | exact bytes_okN (Nat.le_of_ble_eq_true rfl) (by simp only [lensB, lensC]; omega)) | fail)) ?_
 | fail
  all_goals
    conv => whnf
    exact OutA_deep rfl rfl rfl ⟨⟨rfl, rfl⟩, ⟨⟨rfl, rfl⟩, trivial⟩⟩ rfl
theorem c_laws_eqOrder (x y : OrderT) (hok : x.ok) : PC Tryz.prog false 57 [.agg x.cells, .agg y.cells] (.bool (decide (x = y))) [] := by
  refine pc_at Tryz.func57 rfl (by kernel_rfl) 22 [.tmp 4] rfl rfl ?_
  repeat' (conv => whnf); first
 | refine nameB_true ?_
 | refine nameB_false ?_
 | (refine nameB_dec (fun h => ?_) (fun h => ?_) <;> try simp only [lensB] at h)
 | (refine nameB_cases (fun h => ?_) (fun h => ?_) <;> try simp only [nmL, lensB] at h)
 | refine splitB_true ?_
 | refine splitB_false ?_
 | refine Call0 (c_laws_eqStringS x.Reads y.Reads (hok.2.1)) rfl rfl ?_
 | refine Call0 (c_laws_eqWriteS x.Writes y.Writes (hok.2.2)) rfl rfl ?_
 | refine side_and (side_of (by first | (and_intros <;> first | exact Nat.le_of_ble_eq_true rfl | rfl | omega | (simp only [lensB, lensC]; omega) | exact bytes_ok (Nat.le_of_ble_eq_true rfl) (by omega) (by simp only [lensB, lensC]; omega) | exact bytes_okN (Nat.le_of_ble_eq_true rfl) (by simp only [lensB, lensC]; omega)) | fail)) ?_
 | fail
  all_goals
    conv => whnf
    refine OutA_plain rfl rfl ?_
    first
    | exact bool_no (fun e => absurd (congrArg OrderT.Txn e) (by assumption))
    | exact bool_no (fun e => absurd (congrArg OrderT.Reads e) (by assumption))
    | exact bool_no (fun e => absurd (congrArg OrderT.Writes e) (by assumption))
    | exact bool_yes (OrderT.same (by assumption) (by assumption) (by assumption))
theorem c_laws_szOrderS (xs : List OrderT) (n : Int) (h0 : 0 ≤ n) (h1 : n ≤ 1048576) (hok : (okL OrderT.ok) xs) : PC Tryz.prog false 15 [.sl (xs.map OrderT.cells), .int .i64 n] (.int .i64 (szN n (wL OrderT.w xs))) [] := by
  have hl := hok.1
  refine pc_at Tryz.func15 rfl (by kernel_rfl) 27 [.tmp 4] rfl rfl ?_
  repeat' (conv => whnf); first
 | refine nameB_true ?_
 | refine nameB_dno (by assumption) ?_
 | (refine nameB_dec (fun h => ?_) (fun h => ?_) <;> try simp only [lensB] at h)
 | refine splitB_true ?_
 | refine splitB_false ?_
 | ((refine Loop_at [0] [] (Nat × Int) (fun j => match j with | (k, m) => (0 ≤ m ∧ m ≤ 1048576) ∧ m - (((xs.drop k).map OrderT.w).sum : Nat) = n - (wL OrderT.w xs : Nat) ∧ k ≤ xs.length) (fun j => match j with | (k, m) => [(1, .int .i64 m), (5, .int .i64 (k : Nat))]) (fun j => match j with | (k, m) => []) (fun j => match j with | (k, m) => xs.length - k) (0, _) ⟨rfl, by first | (simp_all <;> fail) | rfl | fail, trivial⟩ trivial (by (try dsimp only); first | ((simp only [i64_wrap_eq, List.length_map, wL, List.drop_zero] at *; omega)) | fail) ?_; (conv => whnf); refine side_and (side_of (by first | exact fun ⟨k, m⟩ => rfl | exact fun ⟨k, m⟩ => by simp [headOk, closedE, closedO, closedL, AV.closed, hcap.closed, hasId, AObj.box, BK.ofB])) ?_; rintro ⟨k, m⟩ hT; try dsimp only at hT))
 | (refine Again_of (k + 1, _) ⟨rfl, by first | rfl | exact i64_next (by omega) | (simp_all <;> fail) | fail, trivial⟩ trivial (by first | (and_intros <;> first | rfl | trivial) | fail) (by first | (and_intros <;> first | rfl | trivial) | fail) rfl rfl rfl (by (try dsimp only); first | ((have hs := sum_drop OrderT.w hx; omega)) | fail) (show _ < _ by (try dsimp only); omega))
 | ((by_cases hn : m - (OrderT.w x : Nat) < 0 <;> first | refine Call0 (pc_szneg (c_laws_szOrder x m hT.1.1 hT.1.2 (hok.2 x (List.mem_of_getElem? hx))) hn) rfl rfl ?_ | refine Call0 (pc_szpos (c_laws_szOrder x m hT.1.1 hT.1.2 (hok.2 x (List.mem_of_getElem? hx))) hn) rfl rfl ?_))
 | (refine ix_map (by omega) (by (try simp only [List.length_take]); omega) (fun x hx => ?_); try simp only [Int.toNat_natCast] at hx)
 | refine side_and (side_of (by first | (and_intros <;> first | exact Nat.le_of_ble_eq_true rfl | rfl | omega | (simp only [lensB, lensC]; omega) | exact bytes_ok (Nat.le_of_ble_eq_true rfl) (by omega) (by simp only [lensB, lensC]; omega) | exact bytes_okN (Nat.le_of_ble_eq_true rfl) (by simp only [lensB, lensC]; omega)) | fail)) ?_
 | fail
  all_goals
    conv => whnf
    refine OutA_plain rfl rfl ?_
    refine congrArg (AV.int .i64) ?_
    first
    | (have hs := sum_drop OrderT.w hx; exact szN_neg (by omega))
    | (have hs := sum_end OrderT.w (xs := xs) (k := k) (by omega); exact szN_pos (by omega) (by omega))
    | (have hs : wL OrderT.w xs = xs.length + (xs.map OrderT.w).sum := rfl; simp only [i64_wrap_eq] at *; exact szN_neg (by omega))
theorem c_laws_toOrderS (xs : List OrderT) (hw : wL OrderT.w xs ≤ 1048576) : PC Tryz.prog false 23 [.sl (xs.map OrderT.cells)] (.own 0) [⟨.deep OrderT.shp, 91, 3, xs.map OrderT.cells⟩] := by
  have hl : xs.length ≤ 1048576 := Nat.le_trans wL_len hw
  refine pc_at Tryz.func23 rfl (by kernel_rfl) 23 [.tmp 2] rfl rfl ?_
  repeat' (conv => whnf); first
 | (refine nameB_dec (fun h => ?_) (fun h => ?_) <;> try simp only [lensB] at h)
 | refine splitB_true ?_
 | refine splitB_false ?_
 | ((refine Loop_prom [(4128, OrderT.shp)] ⟨⟨_, _, _, rfl, by first | exact prom_nil | exact prom_rep rfl | exact prom_map (fun _ => rfl) | exact prom_one rfl⟩, trivial⟩ ?_; refine Loop_at [0, 3] [] (Nat) (fun k => True ∧ k ≤ xs.length) (fun k => [(4, .int .i64 (k : Nat))]) (fun k => [(4128, ⟨.deep OrderT.shp, 91, 3, (xs.take k).map OrderT.cells ++ List.replicate (xs.length - k) [.int .i64 0, .nil, .nil]⟩)]) (fun k => xs.length - k) 0 ⟨by first | (simp_all <;> fail) | rfl | fail, trivial⟩ ⟨by first | rfl | exact congrArg (fun e => some (AObj.mk _ _ _ e)) (set_rep hx) | exact congrArg (fun e => some (AObj.mk _ _ _ e)) start_rep | fail | fail, trivial⟩ (by (try dsimp only); first | trivial | (refine ⟨?_, by omega⟩; simp <;> fail) | (simp <;> fail) | fail) ?_; (conv => whnf); refine side_and (side_of (by first | exact fun k => rfl | exact fun k => by simp [headOk, closedE, closedO, closedL, AV.closed, hcap.closed, hasId, AObj.box, BK.ofB])) ?_; rintro k hT; try dsimp only at hT))
 | (refine Again_of (k + 1) ⟨by first | rfl | exact i64_next (by omega) | (simp_all <;> fail) | fail, trivial⟩ ⟨by first | rfl | exact congrArg (fun e => some (AObj.mk _ _ _ e)) (set_rep hx) | exact congrArg (fun e => some (AObj.mk _ _ _ e)) start_rep | fail | fail, trivial⟩ (by first | (and_intros <;> first | rfl | trivial) | fail) (by first | (and_intros <;> first | rfl | trivial) | fail) rfl rfl rfl (by (try dsimp only); first | (exact ⟨trivial, by omega⟩) | fail) (show _ < _ by (try dsimp only); omega))
 | refine CallF (c_laws_toOrder x (Nat.le_trans (wL_mem (List.mem_of_getElem? hx)).2 hw)) rfl rfl rfl (Nat.le_of_ble_eq_true rfl) ?_
 | (refine ix_map (by omega) (by (try simp only [List.length_take]); omega) (fun x hx => ?_); try simp only [Int.toNat_natCast] at hx)
 | refine side_and (side_of (by first | (and_intros <;> first | exact Nat.le_of_ble_eq_true rfl | rfl | omega | (simp only [lensB, lensC]; omega) | exact bytes_ok (Nat.le_of_ble_eq_true rfl) (by omega) (by simp only [lensB, lensC]; omega) | exact bytes_okN (Nat.le_of_ble_eq_true rfl) (by simp only [lensB, lensC]; omega)) | fail)) ?_
 | refine StoreD_of rfl rfl rfl ?_
 | refine ix_rep (by simp; omega) (by omega) ?_
 | fail
  all_goals
    conv => whnf
    exact OutA_deep rfl rfl rfl ⟨⟨congrArg (fun e => some (AObj.mk _ _ _ e)) (full_rep (by omega)), rfl⟩, trivial⟩ rfl
theorem c_laws_eqOrderS (xs ys : List OrderT) (hok : (okL OrderT.ok) xs) : PC Tryz.prog false 30 [.sl (xs.map OrderT.cells), .sl (ys.map OrderT.cells)] (.bool (decide (xs = ys))) [] := by
  have hl := hok.1
  refine pc_at Tryz.func30 rfl (by kernel_rfl) 27 [.tmp 4] rfl rfl ?_
  repeat' (conv => whnf); first
 | refine nameB_true ?_
 | refine nameB_false ?_
 | (refine nameB_dec (fun h => ?_) (fun h => ?_) <;> try simp only [lensB] at h)
 | (refine nameB_cases (fun h => ?_) (fun h => ?_) <;> try simp only [nmL, lensB] at h)
 | refine splitB_true ?_
 | refine splitB_false ?_
 | refine draw_text (by kernel_rfl) (by kernel_rfl) (by kernel_rfl) ?_
 | ((refine Loop_at [0, 1] [] (Nat) (fun k => xs.take k = ys.take k ∧ k ≤ xs.length) (fun k => [(5, .int .i64 (k : Nat))]) (fun k => []) (fun k => xs.length - k) 0 ⟨by first | (simp_all <;> fail) | rfl | fail, trivial⟩ trivial (by (try dsimp only); first | trivial | (refine ⟨?_, by omega⟩; simp <;> fail) | (simp <;> fail) | fail) ?_; (conv => whnf); refine side_and (side_of (by first | exact fun k => rfl | exact fun k => by simp [headOk, closedE, closedO, closedL, AV.closed, hcap.closed, hasId, AObj.box, BK.ofB])) ?_; rintro k hT; try dsimp only at hT))
 | (refine Again_of (k + 1) ⟨by first | rfl | exact i64_next (by omega) | (simp_all <;> fail) | fail, trivial⟩ trivial (by first | (and_intros <;> first | rfl | trivial) | fail) (by first | (and_intros <;> first | rfl | trivial) | fail) rfl rfl rfl (by (try dsimp only); first | (exact ⟨take_next hT.1 hx hy (by assumption), by omega⟩) | fail) (show _ < _ by (try dsimp only); omega))
 | refine CallD0 (c_laws_eqOrder x y (hok.2 x (List.mem_of_getElem? hx))) rfl rfl rfl ?_
 | (refine ix_map2 hx (by omega) (by (try simp only [List.length_take]); omega) (fun y hy => ?_); try simp only [Int.toNat_natCast] at hy)
 | (refine ix_map (by omega) (by (try simp only [List.length_take]); omega) (fun x hx => ?_); try simp only [Int.toNat_natCast] at hx)
 | refine side_and (side_of (by first | (and_intros <;> first | exact Nat.le_of_ble_eq_true rfl | rfl | omega | (simp only [lensB, lensC]; omega) | exact bytes_ok (Nat.le_of_ble_eq_true rfl) (by omega) (by simp only [lensB, lensC]; omega) | exact bytes_okN (Nat.le_of_ble_eq_true rfl) (by simp only [lensB, lensC]; omega)) | fail)) ?_
 | refine LoadK_of rfl rfl ?_
 | fail
  all_goals
    conv => whnf
    refine OutA_plain rfl rfl ?_
    first
    | exact bool_no (len_ne (by omega))
    | exact bool_no (get_ne hx hy (by assumption))
    | exact bool_yes (take_all_eq hT.1 (by omega) (by omega))
theorem m_laws_markOrderS (xs : List OrderT) (k : Int) (h0 : 0 ≤ k) (h1 : k + (cntL OrderT.cnt xs : Int) ≤ 1152921504606846976) (hl : xs.length ≤ 1152921504606846976) : MC Tryz.prog 33 false [.sl (xs.map OrderT.cells)] [.sl 91 3 OrderT.shp] k [.sl ((mkL OrderT.mkM OrderT.cnt xs k).map OrderT.cells)] (k + (cntL OrderT.cnt xs : Int)) := by
  refine mc_of Tryz.func33 rfl (by kernel_rfl) 34 [.tmp 4] [.own 0] rfl rfl (fun e => by first | rfl | cases e) rfl rfl ?_
  repeat' (conv => whnf); first
 | (show Go.Ab.StoreD _ _ _ 0 _ _ _ _ _; refine StoreD_cut (off := 0) [(0, .own 0), (1, .int .i64 ((k + (cntL OrderT.cnt (xs.take i) : Int)))), (5, .int .i64 (i : Nat))] [(0, ⟨.deep OrderT.shp, 91, 3, (((midL OrderT.mkM OrderT.cnt xs k i).map OrderT.cells).set i [.int .i64 ((k + (cntL OrderT.cnt (xs.take i) : Int))), .sl (x.Reads.map strC), .sl (x.Writes.map WriteT.cells)])⟩)] rfl rfl ⟨rfl, (by first | rfl | exact congrArg (AV.int IntKind.i64) (by first | (have hle := cntL_le (cnt := OrderT.cnt) hx; have hcx : OrderT.cnt x = 1 + cntL cnt1 x.Reads + cntL WriteT.cnt x.Writes := rfl; first | (simp (disch := omega) only [i64w] <;> fail) | (simp (disch := omega) only [i64w]; omega)) | fail) | fail), rfl, trivial⟩ rfl ⟨congrArg (fun l => some (AObj.mk _ _ _ l)) (by first | (have hle := cntL_le (cnt := OrderT.cnt) hx; have hcx : OrderT.cnt x = 1 + cntL cnt1 x.Reads + cntL WriteT.cnt x.Writes := rfl; (try simp only [List.set_set, Int.toNat_natCast]); refine congrArg (List.set _ _) ?_; ((repeat' refine cells_eq ?_ ?_) <;> first | rfl | (refine congrArg (AV.int IntKind.i64) ?_; simp (disch := omega) only [i64w]; first | done | rfl) | (refine congrArg AV.str (congrArg mText ?_); simp (disch := omega) only [i64w]; first | done | rfl) | (refine congrArg AV.bool ?_; simp (disch := omega) only [i64w]; first | done | rfl) | (refine congrArg AV.sl ?_; simp (disch := omega) only [i64w]; first | done | rfl))) | fail), trivial⟩ rfl rfl ⟨rfl, by simp⟩ ?_)
 | (refine nameB_dec (fun h => ?_) (fun h => ?_) <;> try simp only [lensB] at h)
 | refine splitB_true ?_
 | refine splitB_false ?_
 | ((refine Loop_at [0] [] (Nat) (fun i => i ≤ xs.length) (fun i => [(1, .int .i64 (k + (cntL OrderT.cnt (xs.take i) : Int))), (5, .int .i64 (i : Nat))]) (fun i => [(0, ⟨.deep OrderT.shp, 91, 3, (midL OrderT.mkM OrderT.cnt xs k i).map OrderT.cells⟩)]) (fun i => xs.length - i) 0 ⟨by first | first | exact cnt0_eq | exact congrArg (AV.int IntKind.i64) (by first | (have hle := cntL_le (cnt := OrderT.cnt) hx; have hcx : OrderT.cnt x = 1 + cntL cnt1 x.Reads + cntL WriteT.cnt x.Writes := rfl; rw [cntL_take hx]; (try simp (disch := omega) only [i64w]); omega) | fail) | rfl | fail, by first | first | exact cnt0_eq | exact congrArg (AV.int IntKind.i64) (by first | (have hle := cntL_le (cnt := OrderT.cnt) hx; have hcx : OrderT.cnt x = 1 + cntL cnt1 x.Reads + cntL WriteT.cnt x.Writes := rfl; rw [cntL_take hx]; (try simp (disch := omega) only [i64w]); omega) | fail) | rfl | fail, trivial⟩ ⟨by first | rfl | first | exact congrArg (fun e => some (AObj.mk _ _ _ e)) (congrArg (List.map OrderT.cells) midL_zero.symm) | exact congrArg (fun e => some (AObj.mk _ _ _ e)) (by first | (refine midL_next hx ?_; rfl) | fail) | fail | fail, trivial⟩ (by (try dsimp only); first | (exact Nat.zero_le _) | fail) ?_; (conv => whnf); refine side_and (side_of (by first | exact fun i => rfl | exact fun i => by simp [headOk, closedE, closedO, closedL, AV.closed, hcap.closed, hasId, AObj.box, BK.ofB])) ?_; rintro i hM; try dsimp only at hM))
 | (refine Again_of (i + 1) ⟨by first | first | exact cnt0_eq | exact congrArg (AV.int IntKind.i64) (by first | (have hle := cntL_le (cnt := OrderT.cnt) hx; have hcx : OrderT.cnt x = 1 + cntL cnt1 x.Reads + cntL WriteT.cnt x.Writes := rfl; rw [cntL_take hx]; (try simp (disch := omega) only [i64w]); omega) | fail) | rfl | fail, by first | rfl | exact i64_next (by omega) | first | exact cnt0_eq | exact congrArg (AV.int IntKind.i64) (by first | (have hle := cntL_le (cnt := OrderT.cnt) hx; have hcx : OrderT.cnt x = 1 + cntL cnt1 x.Reads + cntL WriteT.cnt x.Writes := rfl; rw [cntL_take hx]; (try simp (disch := omega) only [i64w]); omega) | fail) | fail, trivial⟩ ⟨by first | rfl | first | exact congrArg (fun e => some (AObj.mk _ _ _ e)) (congrArg (List.map OrderT.cells) midL_zero.symm) | exact congrArg (fun e => some (AObj.mk _ _ _ e)) (by first | (refine midL_next hx ?_; rfl) | fail) | fail | fail, trivial⟩ (by first | (and_intros <;> first | rfl | trivial) | fail) (by first | (and_intros <;> first | rfl | trivial) | fail) rfl rfl rfl (by (try dsimp only); first | ((show i + 1 ≤ _; omega)) | fail) (show _ < _ by (try dsimp only); omega))
 | (show Go.Ab.CallA _ _ [_, _] _ _ _ _; refine CallMc_cut (off := 1) (es2 := (((midL OrderT.mkM OrderT.cnt xs k i).map OrderT.cells).set i [.int .i64 ((k + (cntL OrderT.cnt (xs.take i) : Int))), .sl ((mkL mkStr cnt1 x.Reads ((k + (cntL OrderT.cnt (xs.take i) : Int)) + 1)).map strC), .sl (x.Writes.map WriteT.cells)])) (k := (k + (cntL OrderT.cnt (xs.take i) : Int)) + 1) (k' := (k + (cntL OrderT.cnt (xs.take i) : Int)) + 1 + (cntL cnt1 x.Reads : Int)) [(0, .own 0), (5, .int .i64 (i : Nat))] (by first | rfl | (have hle := cntL_le (cnt := OrderT.cnt) hx; have hcx : OrderT.cnt x = 1 + cntL cnt1 x.Reads + cntL WriteT.cnt x.Writes := rfl; first | (simp (disch := omega) only [i64w] <;> fail) | (simp (disch := omega) only [i64w]; omega)) | fail) (m_laws_markStringS x.Reads ((k + (cntL OrderT.cnt (xs.take i) : Int)) + 1) (by first | (have hle := cntL_le (cnt := OrderT.cnt) hx; have hcx : OrderT.cnt x = 1 + cntL cnt1 x.Reads + cntL WriteT.cnt x.Writes := rfl; first | omega | (simp (disch := omega) only [i64w]; omega)) | fail) (by first | (have hle := cntL_le (cnt := OrderT.cnt) hx; have hcx : OrderT.cnt x = 1 + cntL cnt1 x.Reads + cntL WriteT.cnt x.Writes := rfl; first | omega | (simp (disch := omega) only [i64w]; omega)) | fail) (by first | (have hle := cntL_le (cnt := OrderT.cnt) hx; have hcx : OrderT.cnt x = 1 + cntL cnt1 x.Reads + cntL WriteT.cnt x.Writes := rfl; have hll := cntL_len_leaf x.Reads; omega) | fail)) (by rfl) (by first | exact mid_at hx | (refine setN_at ?_; simp only [List.length_set, List.length_map, midL_len]; omega) | fail) (by rfl) ⟨rfl, rfl, trivial⟩ rfl (by first | (have hle := cntL_le (cnt := OrderT.cnt) hx; have hcx : OrderT.cnt x = 1 + cntL cnt1 x.Reads + cntL WriteT.cnt x.Writes := rfl; (try simp only [List.set_set, Int.toNat_natCast]); refine congrArg (List.set _ _) ?_; ((repeat' refine cells_eq ?_ ?_) <;> first | rfl | (refine congrArg (AV.int IntKind.i64) ?_; simp (disch := omega) only [i64w]; first | done | rfl) | (refine congrArg AV.str (congrArg mText ?_); simp (disch := omega) only [i64w]; first | done | rfl) | (refine congrArg AV.bool ?_; simp (disch := omega) only [i64w]; first | done | rfl) | (refine congrArg AV.sl ?_; simp (disch := omega) only [i64w]; first | done | rfl))) | fail) rfl rfl ?_)
 | (show Go.Ab.CallA _ _ [_, _] _ _ _ _; refine CallMc_cut (off := 2) (es2 := (((midL OrderT.mkM OrderT.cnt xs k i).map OrderT.cells).set i [.int .i64 ((k + (cntL OrderT.cnt (xs.take i) : Int))), .sl ((mkL mkStr cnt1 x.Reads ((k + (cntL OrderT.cnt (xs.take i) : Int)) + 1)).map strC), .sl ((mkL WriteT.mkM WriteT.cnt x.Writes ((k + (cntL OrderT.cnt (xs.take i) : Int)) + 1 + (cntL cnt1 x.Reads : Int))).map WriteT.cells)])) (k := (k + (cntL OrderT.cnt (xs.take i) : Int)) + 1 + (cntL cnt1 x.Reads : Int)) (k' := (k + (cntL OrderT.cnt (xs.take i) : Int)) + 1 + (cntL cnt1 x.Reads : Int) + (cntL WriteT.cnt x.Writes : Int)) [(0, .own 0), (5, .int .i64 (i : Nat))] (by first | rfl | (have hle := cntL_le (cnt := OrderT.cnt) hx; have hcx : OrderT.cnt x = 1 + cntL cnt1 x.Reads + cntL WriteT.cnt x.Writes := rfl; first | (simp (disch := omega) only [i64w] <;> fail) | (simp (disch := omega) only [i64w]; omega)) | fail) (m_laws_markWriteS x.Writes ((k + (cntL OrderT.cnt (xs.take i) : Int)) + 1 + (cntL cnt1 x.Reads : Int)) (by first | (have hle := cntL_le (cnt := OrderT.cnt) hx; have hcx : OrderT.cnt x = 1 + cntL cnt1 x.Reads + cntL WriteT.cnt x.Writes := rfl; first | omega | (simp (disch := omega) only [i64w]; omega)) | fail) (by first | (have hle := cntL_le (cnt := OrderT.cnt) hx; have hcx : OrderT.cnt x = 1 + cntL cnt1 x.Reads + cntL WriteT.cnt x.Writes := rfl; first | omega | (simp (disch := omega) only [i64w]; omega)) | fail) (by first | (have hle := cntL_le (cnt := OrderT.cnt) hx; have hcx : OrderT.cnt x = 1 + cntL cnt1 x.Reads + cntL WriteT.cnt x.Writes := rfl; have hll := cntL_len_Write x.Writes; omega) | fail)) (by rfl) (by first | exact mid_at hx | (refine setN_at ?_; simp only [List.length_set, List.length_map, midL_len]; omega) | fail) (by rfl) ⟨rfl, rfl, trivial⟩ rfl (by first | (have hle := cntL_le (cnt := OrderT.cnt) hx; have hcx : OrderT.cnt x = 1 + cntL cnt1 x.Reads + cntL WriteT.cnt x.Writes := rfl; (try simp only [List.set_set, Int.toNat_natCast]); refine congrArg (List.set _ _) ?_; ((repeat' refine cells_eq ?_ ?_) <;> first | rfl | (refine congrArg (AV.int IntKind.i64) ?_; simp (disch := omega) only [i64w]; first | done | rfl) | (refine congrArg AV.str (congrArg mText ?_); simp (disch := omega) only [i64w]; first | done | rfl) | (refine congrArg AV.bool ?_; simp (disch := omega) only [i64w]; first | done | rfl) | (refine congrArg AV.sl ?_; simp (disch := omega) only [i64w]; first | done | rfl))) | fail) rfl rfl ?_)
 | refine side_and (side_of (by first | (and_intros <;> first | exact Nat.le_of_ble_eq_true rfl | rfl | omega | (simp only [lensB, lensC]; omega) | exact bytes_ok (Nat.le_of_ble_eq_true rfl) (by omega) (by simp only [lensB, lensC]; omega) | exact bytes_okN (Nat.le_of_ble_eq_true rfl) (by simp only [lensB, lensC]; omega)) | fail)) ?_
 | refine LoadD_cel rfl rfl rfl rfl ?_
 | refine ix_setN (by simp only [List.length_set, List.length_map, midL_len]; omega) ?_
 | refine ix_mid (by omega) (fun x hx => ?_)
 | fail
  all_goals
    conv => whnf
    refine OutM_of (by rfl) (by rfl) (by rfl) ?_ ?_
    · exact congrArg (fun n : Nat => AV.int .i64 (k + (n : Int))) (cntL_end (by omega))
    · exact congrArg (fun l => [AV.sl (List.map OrderT.cells l)]) (midL_end (by omega))
structure DealT where
  Cuts : List (List UInt8)
  States : List StateT
  Orders : List OrderT
deriving DecidableEq
def DealT.cells (x : DealT) : List AV := [.sl (x.Cuts.map strC), .sl (x.States.map StateT.cells), .sl (x.Orders.map OrderT.cells)]
def DealT.ok (x : DealT) : Prop := (okL okS) x.Cuts ∧ (okL StateT.ok) x.States ∧ (okL OrderT.ok) x.Orders
def DealT.w (x : DealT) : Nat := wL List.length x.Cuts + wL StateT.w x.States + wL OrderT.w x.Orders
theorem DealT.same {x y : DealT} (hCuts : x.Cuts = y.Cuts) (hStates : x.States = y.States) (hOrders : x.Orders = y.Orders) : x = y := by cases x; cases y; simp_all
theorem open_Deal : ∀ n cs, Sh Tryz.prog n 26 cs → ∃ x : DealT, cs = DealT.cells x ∧ DealT.ok x := by
  intro n cs h
  cases n with
  | zero => unfold Sh at h; exact h.elim
  | succ n =>
    unfold Sh at h
    rw [Tryz.underlying26] at h
    simp only [ShL] at h
    obtain ⟨y0, z0, rfl, g0, y1, z1, rfl, g1, y2, z2, rfl, g2, rfl⟩ := h
    obtain ⟨x0, rfl, o0⟩ := open_list Tryz.underlying22 (open_str Tryz.underlying9) _ _ g0
    obtain ⟨x1, rfl, o1⟩ := open_list Tryz.underlying23 (open_State) _ _ g1
    obtain ⟨x2, rfl, o2⟩ := open_list Tryz.underlying24 (open_Order) _ _ g2
    exact ⟨⟨x0, x1, x2⟩, rfl, o0, o1, o2⟩
def DealT.shp : List Shp := [.sl 9 1 [.leaf], .sl 50 4 StateT.shp, .sl 91 3 OrderT.shp]
def DealT.mkM (x : DealT) (k : Int) : DealT := ⟨mkL mkStr cnt1 x.Cuts k, mkL StateT.mkM StateT.cnt x.States (k + (cntL cnt1 x.Cuts : Int)), mkL OrderT.mkM OrderT.cnt x.Orders (k + (cntL cnt1 x.Cuts : Int) + (cntL StateT.cnt x.States : Int))⟩
def DealT.cnt (x : DealT) : Nat := cntL cnt1 x.Cuts + cntL StateT.cnt x.States + cntL OrderT.cnt x.Orders
def DealT.mkS (x : DealT) (k : Int) : DealT := ⟨mkL mkStr cnt1 x.Cuts k, mkL StateT.mkM StateT.cnt x.States (k + (cntL cnt1 x.Cuts : Int)), mkL OrderT.mkM OrderT.cnt x.Orders (k + (cntL cnt1 x.Cuts : Int) + (cntL StateT.cnt x.States : Int))⟩
def DealT.cntS (x : DealT) (k : Int) : Int := k + (cntL cnt1 x.Cuts : Int) + (cntL StateT.cnt x.States : Int) + (cntL OrderT.cnt x.Orders : Int)
theorem DealT.cnt_w (x : DealT) : DealT.cnt x ≤ 100 * (1 + DealT.w x) := by
  have h0 := cntL_w100 (cnt := cnt1) (w := List.length) (fun _ => one_w100) x.Cuts
  have h1 := cntL_w100 (cnt := StateT.cnt) (w := StateT.w) (fun y => StateT.cnt_w y) x.States
  have h2 := cntL_w100 (cnt := OrderT.cnt) (w := OrderT.w) (fun y => OrderT.cnt_w y) x.Orders
  simp only [DealT.cnt, DealT.w] at *
  omega
theorem DealT.cntS_w (x : DealT) (k : Int) : DealT.cntS x k ≤ k + 100 * (1 + (DealT.w x : Int)) := by
  have h0 := cntL_w100 (cnt := cnt1) (w := List.length) (fun _ => one_w100) x.Cuts
  have h1 := cntL_w100 (cnt := StateT.cnt) (w := StateT.w) (fun y => StateT.cnt_w y) x.States
  have h2 := cntL_w100 (cnt := OrderT.cnt) (w := OrderT.w) (fun y => OrderT.cnt_w y) x.Orders
  simp only [DealT.cntS, DealT.cnt, DealT.w] at *
  omega
theorem c_laws_szDeal (x : DealT) (n : Int) (h0 : 0 ≤ n) (h1 : n ≤ 1048576) (hok : x.ok) : PC Tryz.prog false 4 [.agg x.cells, .int .i64 n] (.int .i64 (szN n x.w)) [] := by
  have oCuts : (okL okS) x.Cuts := hok.1
  have oStates : (okL StateT.ok) x.States := hok.2.1
  have oOrders : (okL OrderT.ok) x.Orders := hok.2.2
  have hw : x.w = wL List.length x.Cuts + wL StateT.w x.States + wL OrderT.w x.Orders := rfl
  refine pc_at Tryz.func4 rfl (by kernel_rfl) 24 [.tmp 4] rfl rfl ?_
  repeat' (conv => whnf); first
 | refine nameB_true ?_
 | refine nameB_dno (by assumption) ?_
 | refine splitB_true ?_
 | refine splitB_false ?_
 | (by_cases hn0 : n - ((wL List.length x.Cuts : Nat) : Int) < 0 <;> first | refine Call0 (pc_szneg (c_laws_szStringS x.Cuts n (by (try simp only [i64_wrap_eq] at *); omega) (by (try simp only [i64_wrap_eq] at *); omega) oCuts) hn0) rfl rfl ?_ | refine Call0 (pc_szpos (c_laws_szStringS x.Cuts n (by (try simp only [i64_wrap_eq] at *); omega) (by (try simp only [i64_wrap_eq] at *); omega) oCuts) hn0) rfl rfl ?_)
 | (by_cases hn1 : (n - ((wL List.length x.Cuts : Nat) : Int)) - ((wL StateT.w x.States : Nat) : Int) < 0 <;> first | refine Call0 (pc_szneg (c_laws_szStateS x.States (n - ((wL List.length x.Cuts : Nat) : Int)) (by (try simp only [i64_wrap_eq] at *); omega) (by (try simp only [i64_wrap_eq] at *); omega) oStates) hn1) rfl rfl ?_ | refine Call0 (pc_szpos (c_laws_szStateS x.States (n - ((wL List.length x.Cuts : Nat) : Int)) (by (try simp only [i64_wrap_eq] at *); omega) (by (try simp only [i64_wrap_eq] at *); omega) oStates) hn1) rfl rfl ?_)
 | (by_cases hn2 : ((n - ((wL List.length x.Cuts : Nat) : Int)) - ((wL StateT.w x.States : Nat) : Int)) - ((wL OrderT.w x.Orders : Nat) : Int) < 0 <;> first | refine Call0 (pc_szneg (c_laws_szOrderS x.Orders ((n - ((wL List.length x.Cuts : Nat) : Int)) - ((wL StateT.w x.States : Nat) : Int)) (by (try simp only [i64_wrap_eq] at *); omega) (by (try simp only [i64_wrap_eq] at *); omega) oOrders) hn2) rfl rfl ?_ | refine Call0 (pc_szpos (c_laws_szOrderS x.Orders ((n - ((wL List.length x.Cuts : Nat) : Int)) - ((wL StateT.w x.States : Nat) : Int)) (by (try simp only [i64_wrap_eq] at *); omega) (by (try simp only [i64_wrap_eq] at *); omega) oOrders) hn2) rfl rfl ?_)
 | refine side_and (side_of (by first | (and_intros <;> first | exact Nat.le_of_ble_eq_true rfl | rfl | omega | (simp only [lensB, lensC]; omega) | exact bytes_ok (Nat.le_of_ble_eq_true rfl) (by omega) (by simp only [lensB, lensC]; omega) | exact bytes_okN (Nat.le_of_ble_eq_true rfl) (by simp only [lensB, lensC]; omega)) | fail)) ?_
 | fail
  all_goals
    conv => whnf
    refine OutA_plain rfl rfl ?_
    refine congrArg (AV.int .i64) ?_
    (try simp only [i64_wrap_eq] at *)
    first | exact szN_neg (by omega) | exact szN_pos (by omega) (by omega)
theorem c_laws_toDeal (x : DealT) (hw : DealT.w x ≤ 1048576) : PC Tryz.prog false 6 [.agg x.cells] (.agg [.own 0, .own 1, .own 2]) [⟨.deep [.leaf], 9, 1, (x.Cuts.map strC)⟩, ⟨.deep StateT.shp, 50, 4, (x.States.map StateT.cells)⟩, ⟨.deep OrderT.shp, 91, 3, (x.Orders.map OrderT.cells)⟩] := by
  have hw2 : x.w = wL List.length x.Cuts + wL StateT.w x.States + wL OrderT.w x.Orders := rfl
  refine pc_at Tryz.func6 rfl (by kernel_rfl) 17 [.cell 2 34] rfl rfl ?_
  repeat' (conv => whnf); first
 | refine CallF (c_laws_toStringS x.Cuts (by omega)) rfl rfl rfl (Nat.le_of_ble_eq_true rfl) ?_
 | refine CallF (c_laws_toStateS x.States (by omega)) rfl rfl rfl (Nat.le_of_ble_eq_true rfl) ?_
 | refine CallF (c_laws_toOrderS x.Orders (by omega)) rfl rfl rfl (Nat.le_of_ble_eq_true rfl) ?_
 | refine side_and (side_of (by first | (and_intros <;> first | exact Nat.le_of_ble_eq_true rfl | rfl | omega | (simp only [lensB, lensC]; omega) | exact bytes_ok (Nat.le_of_ble_eq_true rfl) (by omega) (by simp only [lensB, lensC]; omega) | exact bytes_okN (Nat.le_of_ble_eq_true rfl) (by simp only [lensB, lensC]; omega)) | fail)) ?_
 | fail
  all_goals
    conv => whnf
    exact OutA_deep rfl rfl rfl ⟨⟨rfl, rfl⟩, ⟨⟨rfl, rfl⟩, ⟨⟨rfl, rfl⟩, trivial⟩⟩⟩ rfl
theorem c_laws_toDeal_ro (x : DealT) (hw : DealT.w x ≤ 1048576) : PC Tryz.prog true 6 [.agg x.cells] (.agg x.cells) [] := by
  have hw2 : x.w = wL List.length x.Cuts + wL StateT.w x.States + wL OrderT.w x.Orders := rfl
  refine pc_at Tryz.func6 rfl (by kernel_rfl) 17 [.cell 2 34] rfl rfl ?_
  repeat' (conv => whnf); first
 | refine CallF (c_laws_toStringS x.Cuts (by omega)) rfl rfl rfl (Nat.le_of_ble_eq_true rfl) ?_
 | refine CallF (c_laws_toStateS x.States (by omega)) rfl rfl rfl (Nat.le_of_ble_eq_true rfl) ?_
 | refine CallF (c_laws_toOrderS x.Orders (by omega)) rfl rfl rfl (Nat.le_of_ble_eq_true rfl) ?_
 | refine side_and (side_of (by first | (and_intros <;> first | exact Nat.le_of_ble_eq_true rfl | rfl | omega | (simp only [lensB, lensC]; omega) | exact bytes_ok (Nat.le_of_ble_eq_true rfl) (by omega) (by simp only [lensB, lensC]; omega) | exact bytes_okN (Nat.le_of_ble_eq_true rfl) (by simp only [lensB, lensC]; omega)) | fail)) ?_
 | fail
  all_goals
    conv => whnf
    refine OutA_frz [8224, 12320, 16416] ?_
    conv => whnf
    exact OutA_plain rfl rfl rfl
theorem c_laws_eqDeal (x y : DealT) (hok : x.ok) : PC Tryz.prog false 9 [.agg x.cells, .agg y.cells] (.bool (decide (x = y))) [] := by
  refine pc_at Tryz.func9 rfl (by kernel_rfl) 23 [.tmp 4] rfl rfl ?_
  repeat' (conv => whnf); first
 | refine nameB_true ?_
 | refine nameB_false ?_
 | (refine nameB_dec (fun h => ?_) (fun h => ?_) <;> try simp only [lensB] at h)
 | refine splitB_true ?_
 | refine splitB_false ?_
 | refine Call0 (c_laws_eqStringS x.Cuts y.Cuts (hok.1)) rfl rfl ?_
 | refine Call0 (c_laws_eqStateS x.States y.States (hok.2.1)) rfl rfl ?_
 | refine Call0 (c_laws_eqOrderS x.Orders y.Orders (hok.2.2)) rfl rfl ?_
 | refine side_and (side_of (by first | (and_intros <;> first | exact Nat.le_of_ble_eq_true rfl | rfl | omega | (simp only [lensB, lensC]; omega) | exact bytes_ok (Nat.le_of_ble_eq_true rfl) (by omega) (by simp only [lensB, lensC]; omega) | exact bytes_okN (Nat.le_of_ble_eq_true rfl) (by simp only [lensB, lensC]; omega)) | fail)) ?_
 | fail
  all_goals
    conv => whnf
    refine OutA_plain rfl rfl ?_
    first
    | exact bool_no (fun e => absurd (congrArg DealT.Cuts e) (by assumption))
    | exact bool_no (fun e => absurd (congrArg DealT.States e) (by assumption))
    | exact bool_no (fun e => absurd (congrArg DealT.Orders e) (by assumption))
    | exact bool_yes (DealT.same (by assumption) (by assumption) (by assumption))
theorem m_laws_markDeal (x : DealT) (k : Int) (h0 : 0 ≤ k) (h1 : DealT.cntS x k ≤ 1152921504606846976) : MC Tryz.prog 10 true x.cells DealT.shp k (DealT.mkS x k).cells (DealT.cntS x k) := by
  have hcx : DealT.cntS x k = k + (cntL cnt1 x.Cuts : Int) + (cntL StateT.cnt x.States : Int) + (cntL OrderT.cnt x.Orders : Int) := rfl
  refine mc_of Tryz.func10 rfl (by kernel_rfl) 18 [.tmp 4] [.own 0, .own 1, .own 2] rfl rfl (fun e => by first | rfl | cases e) rfl rfl ?_
  repeat' (conv => whnf); first
 | refine CallM1 (m_laws_markStringS x.Cuts k (by omega) (by omega) (by have hll := cntL_len_leaf x.Cuts; omega)) [] trivial rfl rfl ?_
 | refine CallM1 (m_laws_markStateS x.States (k + (cntL cnt1 x.Cuts : Int)) (by omega) (by omega) (by have hll := cntL_len_State x.States; omega)) [] trivial rfl rfl ?_
 | refine CallM1 (m_laws_markOrderS x.Orders (k + (cntL cnt1 x.Cuts : Int) + (cntL StateT.cnt x.States : Int)) (by omega) (by omega) (by have hll := cntL_len_Order x.Orders; omega)) [] trivial rfl rfl ?_
 | refine side_and (side_of (by first | (and_intros <;> first | exact Nat.le_of_ble_eq_true rfl | rfl | omega | (simp only [lensB, lensC]; omega) | exact bytes_ok (Nat.le_of_ble_eq_true rfl) (by omega) (by simp only [lensB, lensC]; omega) | exact bytes_okN (Nat.le_of_ble_eq_true rfl) (by simp only [lensB, lensC]; omega)) | fail)) ?_
 | fail
  all_goals
    conv => whnf
    exact OutM_of (by rfl) (by rfl) (by rfl) (by rfl) (by rfl)
end Go.Proofs.YthbheejeloomjaaGreat
