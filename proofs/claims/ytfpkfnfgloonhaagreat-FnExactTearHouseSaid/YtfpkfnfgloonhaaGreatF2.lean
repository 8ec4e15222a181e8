/- Part 2 of one proof: lemmas and contracts, laid one behind the other. No condition. -/
import Derived.Test.YtfpkfnfgloonhaaGreatF1
import Derived.Test.YtfpkfnfgloonhaaGreatProg
import Derived.KernelRfl
import Derived.Test.YtfpkfnfgloonhaaGreatM4
namespace Go.Proofs.YtfpkfnfgloonhaaGreat
open Go.Ab
set_option linter.unusedSimpArgs false
set_option maxRecDepth 20000
set_option maxHeartbeats 4000000
set_option linter.unusedVariables false

structure DiskT where
  Kept : List UInt8
  Loose : List UInt8
deriving DecidableEq
def DiskT.cells (x : DiskT) : List AV := [.str x.Kept, .str x.Loose]
def DiskT.ok (x : DiskT) : Prop := okS x.Kept ∧ okS x.Loose
def DiskT.w (x : DiskT) : Nat := x.Kept.length + x.Loose.length
theorem DiskT.same {x y : DiskT} (hKept : x.Kept = y.Kept) (hLoose : x.Loose = y.Loose) : x = y := by cases x; cases y; simp_all
theorem open_Disk : ∀ n cs, Sh Tryz.prog n 133 cs → ∃ x : DiskT, cs = DiskT.cells x ∧ DiskT.ok x := by
  intro n cs h
  cases n with
  | zero => unfold Sh at h; exact h.elim
  | succ n =>
    unfold Sh at h
    rw [Tryz.underlying133] at h
    simp only [ShL] at h
    obtain ⟨y0, z0, rfl, g0, y1, z1, rfl, g1, rfl⟩ := h
    obtain ⟨x0, rfl, o0⟩ := open_str Tryz.underlying9 _ _ g0
    obtain ⟨x1, rfl, o1⟩ := open_str Tryz.underlying9 _ _ g1
    exact ⟨⟨x0, x1⟩, rfl, o0, o1⟩
def DiskT.shp : List Shp := [.leaf, .leaf]
def DiskT.mkM (x : DiskT) (k : Int) : DiskT := ⟨mText k, mText (k + 1)⟩
def DiskT.cnt (x : DiskT) : Nat := 1 + 1
theorem cntL_len_Disk (xs : List DiskT) : xs.length ≤ cntL DiskT.cnt xs := by
  induction xs with
  | nil => exact Nat.zero_le _
  | cons x xs ih =>
    simp only [cntL, List.map_cons, List.sum_cons, List.length_cons] at ih ⊢
    have hcx : DiskT.cnt x = 1 + 1 := rfl
    omega
theorem DiskT.cnt_w (x : DiskT) : DiskT.cnt x ≤ 100 * (1 + DiskT.w x) := by
  simp only [DiskT.cnt, DiskT.w] at *
  omega
theorem c_laws_szDisk (x : DiskT) (n : Int) (h0 : 0 ≤ n) (h1 : n ≤ 1048576) (hok : x.ok) : PC Tryz.prog false 87 [.agg x.cells, .int .i64 n] (.int .i64 (szN n x.w)) [] := by
  have oKept : okS x.Kept := hok.1
  have bKept : x.Kept.length ≤ 9223372036854775807 := oKept
  have oLoose : okS x.Loose := hok.2
  have bLoose : x.Loose.length ≤ 9223372036854775807 := oLoose
  have hw : x.w = x.Kept.length + x.Loose.length := rfl
  refine pc_at Tryz.func87 rfl (by kernel_rfl) 20 [.tmp 4] rfl rfl ?_
  repeat' (conv => whnf); first
 | (refine nameB_dec (fun h => ?_) (fun h => ?_) <;> try simp only [lensB] at h)
 | refine splitB_true ?_
 | refine splitB_false ?_
 | refine side_and (side_of (by first | exact Nat.le_of_ble_eq_true rfl | exact rfl | omega | fail)) ?_
 | fail
  all_goals
    conv => whnf
    refine OutA_plain rfl rfl ?_
    refine congrArg (AV.int .i64) ?_
    (try simp only [i64_wrap_eq] at *)
    first | exact szN_neg (by omega) | exact szN_pos (by omega) (by omega)
theorem c_laws_toDisk (x : DiskT) : PC Tryz.prog false 98 [.agg x.cells] (.agg (DiskT.cells x)) [] := by
  refine pc_at Tryz.func98 rfl (by kernel_rfl) 11 [.cell 2 92] rfl rfl ?_
  repeat' (conv => whnf); first
 | refine side_and (side_of (by first | exact ⟨Nat.le_of_ble_eq_true rfl, rfl⟩ | fail)) ?_
 | refine side_and (side_of (by first | exact Nat.le_of_ble_eq_true rfl | exact rfl | omega | fail)) ?_
 | refine side_and (side_of (by first | (and_intros <;> first | rfl | omega | exact Nat.le_of_ble_eq_true rfl) | fail)) ?_
 | fail
  all_goals
    conv => whnf
    exact OutA_plain rfl rfl rfl
theorem c_laws_eqDisk (x y : DiskT) : PC Tryz.prog false 102 [.agg x.cells, .agg y.cells] (.bool (decide (x = y))) [] := by
  refine pc_at Tryz.func102 rfl (by kernel_rfl) 15 [.tmp 4] rfl rfl ?_
  repeat' (conv => whnf); first
 | (refine nameB_cases (fun h => ?_) (fun h => ?_) <;> try simp only [nmL, lensB] at h)
 | refine splitB_true ?_
 | refine splitB_false ?_
 | refine side_and (side_of (by first | exact Nat.le_of_ble_eq_true rfl | exact rfl | omega | fail)) ?_
 | fail
  all_goals
    conv => whnf
    refine OutA_plain rfl rfl ?_
    first
    | exact bool_no (fun e => absurd (congrArg DiskT.Kept e) (by assumption))
    | exact bool_no (fun e => absurd (congrArg DiskT.Loose e) (by assumption))
    | exact bool_yes (DiskT.same (by assumption) (by assumption))
theorem c_laws_szDiskS (xs : List DiskT) (n : Int) (h0 : 0 ≤ n) (h1 : n ≤ 1048576) (hok : (okL DiskT.ok) xs) : PC Tryz.prog false 44 [.sl (xs.map DiskT.cells), .int .i64 n] (.int .i64 (szN n (wL DiskT.w xs))) [] := by
  have hl := hok.1
  refine pc_at Tryz.func44 rfl (by kernel_rfl) 27 [.tmp 4] rfl rfl ?_
  repeat' (conv => whnf); first
 | refine nameB_true ?_
 | refine nameB_dno (by assumption) ?_
 | (refine nameB_dec (fun h => ?_) (fun h => ?_) <;> try simp only [lensB] at h)
 | refine splitB_true ?_
 | refine splitB_false ?_
 | ((refine Loop_at [0] [] (Nat × Int) (fun j => match j with | (k, m) => (0 ≤ m ∧ m ≤ 1048576) ∧ m - (((xs.drop k).map DiskT.w).sum : Nat) = n - (wL DiskT.w xs : Nat) ∧ k ≤ xs.length) (fun j => match j with | (k, m) => [(1, .int .i64 m), (5, .int .i64 (k : Nat))]) (fun j => match j with | (k, m) => []) (fun j => match j with | (k, m) => xs.length - k) (0, _) ⟨rfl, by first | (simp_all <;> fail) | rfl | fail, trivial⟩ trivial (by (try dsimp only); first | ((simp only [i64_wrap_eq, List.length_map, wL, List.drop_zero] at *; omega)) | fail) ?_; (conv => whnf); refine side_and (side_of (by first | exact fun ⟨k, m⟩ => rfl | exact fun ⟨k, m⟩ => by simp [headOk, closedE, closedO, closedL, AV.closed, hcap.closed, hasId, AObj.box, BK.ofB])) ?_; rintro ⟨k, m⟩ hT; try dsimp only at hT))
 | (refine Again_of (k + 1, _) ⟨rfl, by first | rfl | exact i64_next (by omega) | (simp_all <;> fail) | fail, trivial⟩ trivial (by first | (and_intros <;> first | rfl | trivial) | fail) (by first | (and_intros <;> first | rfl | trivial) | fail) rfl rfl rfl (by (try dsimp only); first | ((have hs := sum_drop DiskT.w hx; omega)) | fail) (show _ < _ by (try dsimp only); omega))
 | ((by_cases hn : m - (DiskT.w x : Nat) < 0 <;> first | refine Call0 (pc_szneg (c_laws_szDisk x m hT.1.1 hT.1.2 (hok.2 x (List.mem_of_getElem? hx))) hn) rfl rfl ?_ | refine Call0 (pc_szpos (c_laws_szDisk x m hT.1.1 hT.1.2 (hok.2 x (List.mem_of_getElem? hx))) hn) rfl rfl ?_))
 | (refine ix_map (by omega) (by (try simp only [List.length_take]); omega) (fun x hx => ?_); try simp only [Int.toNat_natCast] at hx)
 | refine side_and (side_of (by first | exact Nat.le_of_ble_eq_true rfl | exact rfl | omega | fail)) ?_
 | fail
  all_goals
    conv => whnf
    refine OutA_plain rfl rfl ?_
    refine congrArg (AV.int .i64) ?_
    first
    | (have hs := sum_drop DiskT.w hx; exact szN_neg (by omega))
    | (have hs := sum_end DiskT.w (xs := xs) (k := k) (by omega); exact szN_pos (by omega) (by omega))
    | (have hs : wL DiskT.w xs = xs.length + (xs.map DiskT.w).sum := rfl; simp only [i64_wrap_eq] at *; exact szN_neg (by omega))
theorem c_laws_toDiskS (xs : List DiskT) (hw : wL DiskT.w xs ≤ 1048576) : PC Tryz.prog false 51 [.sl (xs.map DiskT.cells)] (.own 0) [⟨.deep DiskT.shp, 92, 2, xs.map DiskT.cells⟩] := by
  have hl : xs.length ≤ 1048576 := Nat.le_trans wL_len hw
  refine pc_at Tryz.func51 rfl (by kernel_rfl) 23 [.tmp 2] rfl rfl ?_
  repeat' (conv => whnf); first
 | (refine nameB_dec (fun h => ?_) (fun h => ?_) <;> try simp only [lensB] at h)
 | refine splitB_true ?_
 | refine splitB_false ?_
 | ((refine Loop_prom [(4128, DiskT.shp)] ⟨⟨_, _, _, rfl, by first | exact prom_nil | exact prom_rep rfl | exact prom_map (fun _ => rfl) | exact prom_one rfl⟩, trivial⟩ ?_; refine Loop_at [0, 3] [] (Nat) (fun k => True ∧ k ≤ xs.length) (fun k => [(4, .int .i64 (k : Nat))]) (fun k => [(4128, ⟨.deep DiskT.shp, 92, 2, (xs.take k).map DiskT.cells ++ List.replicate (xs.length - k) [.str [], .str []]⟩)]) (fun k => xs.length - k) 0 ⟨by first | (simp_all <;> fail) | rfl | fail, trivial⟩ ⟨by first | rfl | exact congrArg (fun e => some (AObj.mk _ _ _ e)) (set_rep hx) | exact congrArg (fun e => some (AObj.mk _ _ _ e)) start_rep | fail | fail, trivial⟩ (by (try dsimp only); first | trivial | (refine ⟨?_, by omega⟩; simp <;> fail) | (simp <;> fail) | fail) ?_; (conv => whnf); refine side_and (side_of (by first | exact fun k => rfl | exact fun k => by simp [headOk, closedE, closedO, closedL, AV.closed, hcap.closed, hasId, AObj.box, BK.ofB])) ?_; rintro k hT; try dsimp only at hT))
 | (refine Again_of (k + 1) ⟨by first | rfl | exact i64_next (by omega) | (simp_all <;> fail) | fail, trivial⟩ ⟨by first | rfl | exact congrArg (fun e => some (AObj.mk _ _ _ e)) (set_rep hx) | exact congrArg (fun e => some (AObj.mk _ _ _ e)) start_rep | fail | fail, trivial⟩ (by first | (and_intros <;> first | rfl | trivial) | fail) (by first | (and_intros <;> first | rfl | trivial) | fail) rfl rfl rfl (by (try dsimp only); first | (exact ⟨trivial, by omega⟩) | fail) (show _ < _ by (try dsimp only); omega))
 | refine Call0 (c_laws_toDisk x) rfl rfl ?_
 | (refine ix_map (by omega) (by (try simp only [List.length_take]); omega) (fun x hx => ?_); try simp only [Int.toNat_natCast] at hx)
 | refine side_and (side_of (by first | exact Nat.le_of_ble_eq_true rfl | exact rfl | omega | fail)) ?_
 | refine side_and (side_of (by first | (and_intros <;> first | rfl | omega | exact Nat.le_of_ble_eq_true rfl) | fail)) ?_
 | refine side_and (side_of (by first | (and_intros <;> first | exact Nat.le_of_ble_eq_true rfl | rfl | omega | (simp only [lensB, lensC]; omega) | exact bytes_ok (Nat.le_of_ble_eq_true rfl) (by omega) (by simp only [lensB, lensC]; omega) | exact bytes_okN (Nat.le_of_ble_eq_true rfl) (by simp only [lensB, lensC]; omega)) | fail)) ?_
 | refine StoreD_of rfl rfl rfl ?_
 | refine ix_rep (by simp; omega) (by omega) ?_
 | fail
  all_goals
    conv => whnf
    exact OutA_deep rfl rfl rfl ⟨⟨congrArg (fun e => some (AObj.mk _ _ _ e)) (full_rep (by omega)), rfl⟩, trivial⟩ rfl
theorem c_laws_eqDiskS (xs ys : List DiskT) (hok : (okL DiskT.ok) xs) : PC Tryz.prog false 53 [.sl (xs.map DiskT.cells), .sl (ys.map DiskT.cells)] (.bool (decide (xs = ys))) [] := by
  have hl := hok.1
  refine pc_at Tryz.func53 rfl (by kernel_rfl) 27 [.tmp 4] rfl rfl ?_
  repeat' (conv => whnf); first
 | refine nameB_true ?_
 | refine nameB_false ?_
 | (refine nameB_dec (fun h => ?_) (fun h => ?_) <;> try simp only [lensB] at h)
 | (refine nameB_cases (fun h => ?_) (fun h => ?_) <;> try simp only [nmL, lensB] at h)
 | refine splitB_true ?_
 | refine splitB_false ?_
 | refine draw_text (by kernel_rfl) (by kernel_rfl) (by kernel_rfl) ?_
 | ((refine Loop_at [0, 1] [] (Nat) (fun k => xs.take k = ys.take k ∧ k ≤ xs.length) (fun k => [(5, .int .i64 (k : Nat))]) (fun k => []) (fun k => xs.length - k) 0 ⟨by first | (simp_all <;> fail) | rfl | fail, trivial⟩ trivial (by (try dsimp only); first | trivial | (refine ⟨?_, by omega⟩; simp <;> fail) | (simp <;> fail) | fail) ?_; (conv => whnf); refine side_and (side_of (by first | exact fun k => rfl | exact fun k => by simp [headOk, closedE, closedO, closedL, AV.closed, hcap.closed, hasId, AObj.box, BK.ofB])) ?_; rintro k hT; try dsimp only at hT))
 | (refine Again_of (k + 1) ⟨by first | rfl | exact i64_next (by omega) | (simp_all <;> fail) | fail, trivial⟩ trivial (by first | (and_intros <;> first | rfl | trivial) | fail) (by first | (and_intros <;> first | rfl | trivial) | fail) rfl rfl rfl (by (try dsimp only); first | (exact ⟨take_next hT.1 hx hy (by assumption), by omega⟩) | fail) (show _ < _ by (try dsimp only); omega))
 | refine CallD0 (c_laws_eqDisk x y) rfl rfl rfl ?_
 | (refine ix_map2 hx (by omega) (by (try simp only [List.length_take]); omega) (fun y hy => ?_); try simp only [Int.toNat_natCast] at hy)
 | (refine ix_map (by omega) (by (try simp only [List.length_take]); omega) (fun x hx => ?_); try simp only [Int.toNat_natCast] at hx)
 | refine side_and (side_of (by first | exact Nat.le_of_ble_eq_true rfl | exact rfl | omega | fail)) ?_
 | refine LoadK_of rfl rfl ?_
 | fail
  all_goals
    conv => whnf
    refine OutA_plain rfl rfl ?_
    first
    | exact bool_no (len_ne (by omega))
    | exact bool_no (get_ne hx hy (by assumption))
    | exact bool_yes (take_all_eq hT.1 (by omega) (by omega))
theorem m_laws_markDiskS (xs : List DiskT) (k : Int) (h0 : 0 ≤ k) (h1 : k + (cntL DiskT.cnt xs : Int) ≤ 1152921504606846976) (hl : xs.length ≤ 1152921504606846976) : MC Tryz.prog 54 false [.sl (xs.map DiskT.cells)] [.sl 92 2 DiskT.shp] k [.sl ((mkL DiskT.mkM DiskT.cnt xs k).map DiskT.cells)] (k + (cntL DiskT.cnt xs : Int)) := by
  refine mc_of Tryz.func54 rfl (by kernel_rfl) 29 [.tmp 4] [.own 0] rfl rfl (fun e => by first | rfl | cases e) rfl rfl ?_
  repeat' (conv => whnf); first
 | (show Go.Ab.StoreD _ _ _ 0 _ _ _ _ _; refine StoreD_cut (off := 0) [(0, .own 0), (1, .int .i64 ((k + (cntL DiskT.cnt (xs.take i) : Int)))), (5, .int .i64 (i : Nat))] [(0, ⟨.deep DiskT.shp, 92, 2, (((midL DiskT.mkM DiskT.cnt xs k i).map DiskT.cells).set i [.str (mText ((k + (cntL DiskT.cnt (xs.take i) : Int)))), .str x.Loose])⟩)] rfl rfl ⟨rfl, (by first | rfl | exact congrArg (AV.int IntKind.i64) (by first | (have hle := cntL_le (cnt := DiskT.cnt) hx; have hcx : DiskT.cnt x = 1 + 1 := rfl; first | (simp (disch := omega) only [i64w] <;> fail) | (simp (disch := omega) only [i64w]; omega)) | fail) | fail), rfl, trivial⟩ rfl ⟨congrArg (fun l => some (AObj.mk _ _ _ l)) (by first | (have hle := cntL_le (cnt := DiskT.cnt) hx; have hcx : DiskT.cnt x = 1 + 1 := rfl; (try simp only [List.set_set, Int.toNat_natCast]); refine congrArg (List.set _ _) ?_; ((repeat' refine cells_eq ?_ ?_) <;> first | rfl | (refine congrArg (AV.int IntKind.i64) ?_; simp (disch := omega) only [i64w]; first | done | rfl) | (refine congrArg AV.str (congrArg mText ?_); simp (disch := omega) only [i64w]; first | done | rfl) | (refine congrArg AV.bool ?_; simp (disch := omega) only [i64w]; first | done | rfl) | (refine congrArg AV.sl ?_; simp (disch := omega) only [i64w]; first | done | rfl))) | fail), trivial⟩ rfl rfl ⟨rfl, by simp⟩ ?_)
 | (show Go.Ab.StoreD _ _ _ 1 _ _ _ _ _; refine StoreD_cut (off := 1) [(0, .own 0), (1, .int .i64 ((k + (cntL DiskT.cnt (xs.take i) : Int)) + 1)), (5, .int .i64 (i : Nat))] [(0, ⟨.deep DiskT.shp, 92, 2, (((midL DiskT.mkM DiskT.cnt xs k i).map DiskT.cells).set i [.str (mText ((k + (cntL DiskT.cnt (xs.take i) : Int)))), .str (mText ((k + (cntL DiskT.cnt (xs.take i) : Int)) + 1))])⟩)] rfl rfl ⟨rfl, (by first | rfl | exact congrArg (AV.int IntKind.i64) (by first | (have hle := cntL_le (cnt := DiskT.cnt) hx; have hcx : DiskT.cnt x = 1 + 1 := rfl; first | (simp (disch := omega) only [i64w] <;> fail) | (simp (disch := omega) only [i64w]; omega)) | fail) | fail), rfl, trivial⟩ rfl ⟨congrArg (fun l => some (AObj.mk _ _ _ l)) (by first | (have hle := cntL_le (cnt := DiskT.cnt) hx; have hcx : DiskT.cnt x = 1 + 1 := rfl; (try simp only [List.set_set, Int.toNat_natCast]); refine congrArg (List.set _ _) ?_; ((repeat' refine cells_eq ?_ ?_) <;> first | rfl | (refine congrArg (AV.int IntKind.i64) ?_; simp (disch := omega) only [i64w]; first | done | rfl) | (refine congrArg AV.str (congrArg mText ?_); simp (disch := omega) only [i64w]; first | done | rfl) | (refine congrArg AV.bool ?_; simp (disch := omega) only [i64w]; first | done | rfl) | (refine congrArg AV.sl ?_; simp (disch := omega) only [i64w]; first | done | rfl))) | fail), trivial⟩ rfl rfl ⟨rfl, by simp⟩ ?_)
 | (refine nameB_dec (fun h => ?_) (fun h => ?_) <;> try simp only [lensB] at h)
 | refine splitB_true ?_
 | refine splitB_false ?_
 | ((refine Loop_at [0] [] (Nat) (fun i => i ≤ xs.length) (fun i => [(1, .int .i64 (k + (cntL DiskT.cnt (xs.take i) : Int))), (5, .int .i64 (i : Nat))]) (fun i => [(0, ⟨.deep DiskT.shp, 92, 2, (midL DiskT.mkM DiskT.cnt xs k i).map DiskT.cells⟩)]) (fun i => xs.length - i) 0 ⟨by first | first | exact cnt0_eq | exact congrArg (AV.int IntKind.i64) (by first | (have hle := cntL_le (cnt := DiskT.cnt) hx; have hcx : DiskT.cnt x = 1 + 1 := rfl; rw [cntL_take hx]; (try simp (disch := omega) only [i64w]); omega) | fail) | rfl | fail, by first | first | exact cnt0_eq | exact congrArg (AV.int IntKind.i64) (by first | (have hle := cntL_le (cnt := DiskT.cnt) hx; have hcx : DiskT.cnt x = 1 + 1 := rfl; rw [cntL_take hx]; (try simp (disch := omega) only [i64w]); omega) | fail) | rfl | fail, trivial⟩ ⟨by first | rfl | first | exact congrArg (fun e => some (AObj.mk _ _ _ e)) (congrArg (List.map DiskT.cells) midL_zero.symm) | exact congrArg (fun e => some (AObj.mk _ _ _ e)) (by first | (refine midL_next hx ?_; rfl) | fail) | fail | fail, trivial⟩ (by (try dsimp only); first | (exact Nat.zero_le _) | fail) ?_; (conv => whnf); refine side_and (side_of (by first | exact fun i => rfl | exact fun i => by simp [headOk, closedE, closedO, closedL, AV.closed, hcap.closed, hasId, AObj.box, BK.ofB])) ?_; rintro i hM; try dsimp only at hM))
 | (refine Again_of (i + 1) ⟨by first | first | exact cnt0_eq | exact congrArg (AV.int IntKind.i64) (by first | (have hle := cntL_le (cnt := DiskT.cnt) hx; have hcx : DiskT.cnt x = 1 + 1 := rfl; rw [cntL_take hx]; (try simp (disch := omega) only [i64w]); omega) | fail) | rfl | fail, by first | rfl | exact i64_next (by omega) | first | exact cnt0_eq | exact congrArg (AV.int IntKind.i64) (by first | (have hle := cntL_le (cnt := DiskT.cnt) hx; have hcx : DiskT.cnt x = 1 + 1 := rfl; rw [cntL_take hx]; (try simp (disch := omega) only [i64w]); omega) | fail) | fail, trivial⟩ ⟨by first | rfl | first | exact congrArg (fun e => some (AObj.mk _ _ _ e)) (congrArg (List.map DiskT.cells) midL_zero.symm) | exact congrArg (fun e => some (AObj.mk _ _ _ e)) (by first | (refine midL_next hx ?_; rfl) | fail) | fail | fail, trivial⟩ (by first | (and_intros <;> first | rfl | trivial) | fail) (by first | (and_intros <;> first | rfl | trivial) | fail) rfl rfl rfl (by (try dsimp only); first | ((show i + 1 ≤ _; omega)) | fail) (show _ < _ by (try dsimp only); omega))
 | (refine Call0 (c_laws_markText _ (by first | (obtain ⟨x, hx⟩ := get_lt (xs := xs) (i := i) (by omega); have hle := cntL_le (cnt := DiskT.cnt) hx; have hcx : DiskT.cnt x = 1 + 1 := rfl; first | omega | (simp (disch := omega) only [i64w]; omega)) | fail)) rfl rfl ?_)
 | refine side_and (side_of (by first | exact Nat.le_of_ble_eq_true rfl | exact rfl | omega | fail)) ?_
 | refine side_and (side_of (by first | (and_intros <;> first | rfl | omega | exact Nat.le_of_ble_eq_true rfl) | fail)) ?_
 | refine side_and (side_of (by first | (and_intros <;> first | exact Nat.le_of_ble_eq_true rfl | rfl | omega | (simp only [lensB, lensC]; omega) | exact bytes_ok (Nat.le_of_ble_eq_true rfl) (by omega) (by simp only [lensB, lensC]; omega) | exact bytes_okN (Nat.le_of_ble_eq_true rfl) (by simp only [lensB, lensC]; omega)) | fail)) ?_
 | refine ix_setN (by simp only [List.length_set, List.length_map, midL_len]; omega) ?_
 | refine ix_mid (by omega) (fun x hx => ?_)
 | fail
  all_goals
    conv => whnf
    refine OutM_of (by rfl) (by rfl) (by rfl) ?_ ?_
    · exact congrArg (fun n : Nat => AV.int .i64 (k + (n : Int))) (cntL_end (by omega))
    · exact congrArg (fun l => [AV.sl (List.map DiskT.cells l)]) (midL_end (by omega))
theorem c_laws_heldDiskS (xs : List DiskT) (k : Int) (h0 : 0 ≤ k) (h1 : k + (cntL DiskT.cnt xs : Int) ≤ 1152921504606846976) (hl : xs.length ≤ 1152921504606846976) : PC Tryz.prog false 55 [.sl ((mkL DiskT.mkM DiskT.cnt xs k).map DiskT.cells), .int .i64 k] (.int .i64 (k + (cntL DiskT.cnt xs : Int))) [] := by
  refine pc_at Tryz.func55 rfl (by kernel_rfl) 33 [.tmp 4] rfl rfl ?_
  repeat' (conv => whnf); first
 | refine ix_mk_at hx ?_
 | refine ix_mk (i := i) rfl (by omega) (fun x hx => ?_)
 | refine nameB_no (heldB_no (by first | (have hle := cntL_le (cnt := DiskT.cnt) hx; have hcx : DiskT.cnt x = 1 + 1 := rfl; first | rfl | (simp (disch := omega) only [i64w] <;> fail) | (simp (disch := omega) only [i64w]; rfl)) | fail)) ?_
 | (refine nameB_dec (fun h => ?_) (fun h => ?_) <;> try simp only [lensB] at h)
 | refine splitB_true ?_
 | refine splitB_false ?_
 | refine draw_text (by kernel_rfl) (by kernel_rfl) (by kernel_rfl) ?_
 | ((refine Loop_at [0] [] (Nat) (fun i => i ≤ xs.length) (fun i => [(1, .int .i64 (k + (cntL DiskT.cnt (xs.take i) : Int))), (5, .int .i64 (i : Nat))]) (fun i => []) (fun i => xs.length - i) 0 ⟨by first | first | exact cnt0_eq | exact congrArg (AV.int IntKind.i64) (by first | (have hle := cntL_le (cnt := DiskT.cnt) hx; have hcx : DiskT.cnt x = 1 + 1 := rfl; rw [cntL_take hx]; (try simp (disch := omega) only [i64w]); omega) | fail) | rfl | fail, by first | first | exact cnt0_eq | exact congrArg (AV.int IntKind.i64) (by first | (have hle := cntL_le (cnt := DiskT.cnt) hx; have hcx : DiskT.cnt x = 1 + 1 := rfl; rw [cntL_take hx]; (try simp (disch := omega) only [i64w]); omega) | fail) | rfl | fail, trivial⟩ trivial (by (try dsimp only); first | (exact Nat.zero_le _) | fail) ?_; (conv => whnf); refine side_and (side_of (by first | exact fun i => rfl | exact fun i => by simp [headOk, closedE, closedO, closedL, AV.closed, hcap.closed, hasId, AObj.box, BK.ofB])) ?_; rintro i hM; try dsimp only at hM))
 | (refine Again_of (i + 1) ⟨by first | first | exact cnt0_eq | exact congrArg (AV.int IntKind.i64) (by first | (have hle := cntL_le (cnt := DiskT.cnt) hx; have hcx : DiskT.cnt x = 1 + 1 := rfl; rw [cntL_take hx]; (try simp (disch := omega) only [i64w]); omega) | fail) | rfl | fail, by first | rfl | exact i64_next (by omega) | first | exact cnt0_eq | exact congrArg (AV.int IntKind.i64) (by first | (have hle := cntL_le (cnt := DiskT.cnt) hx; have hcx : DiskT.cnt x = 1 + 1 := rfl; rw [cntL_take hx]; (try simp (disch := omega) only [i64w]); omega) | fail) | fail, trivial⟩ trivial (by first | (and_intros <;> first | rfl | trivial) | fail) (by first | (and_intros <;> first | rfl | trivial) | fail) rfl rfl rfl (by (try dsimp only); first | ((show i + 1 ≤ _; omega)) | fail) (show _ < _ by (try dsimp only); omega))
 | (refine CallD0 (c_laws_markText _ (by first | (have hle := cntL_le (cnt := DiskT.cnt) hx; have hcx : DiskT.cnt x = 1 + 1 := rfl; first | omega | (simp (disch := omega) only [i64w]; omega)) | fail)) rfl rfl rfl ?_)
 | refine side_and (side_of (by first | exact Nat.le_of_ble_eq_true rfl | exact rfl | omega | fail)) ?_
 | refine LoadK_of rfl rfl ?_
 | fail
  all_goals
    conv => whnf
    refine OutA_plain rfl rfl ?_
    first
    | exact congrArg (fun n : Nat => AV.int .i64 (k + (n : Int))) (cntL_end (by omega))
    | (exfalso; omega)
structure HouseT where
  Group : GroupT
  Disks : List DiskT
deriving DecidableEq
def HouseT.cells (x : HouseT) : List AV := [.sl (x.Group.Reps.map ReplicaT.cells), .int .i64 x.Group.Term, .int .i64 x.Group.Lead, .sl (x.Disks.map DiskT.cells)]
def HouseT.ok (x : HouseT) : Prop := GroupT.ok x.Group ∧ (okL DiskT.ok) x.Disks
def HouseT.w (x : HouseT) : Nat := GroupT.w x.Group + wL DiskT.w x.Disks
theorem HouseT.same {x y : HouseT} (hGroup : x.Group = y.Group) (hDisks : x.Disks = y.Disks) : x = y := by cases x; cases y; simp_all
theorem open_House : ∀ n cs, Sh Tryz.prog n 27 cs → ∃ x : HouseT, cs = HouseT.cells x ∧ HouseT.ok x := by
  intro n cs h
  cases n with
  | zero => unfold Sh at h; exact h.elim
  | succ n =>
    unfold Sh at h
    rw [Tryz.underlying27] at h
    simp only [ShL] at h
    obtain ⟨y0, z0, rfl, g0, y1, z1, rfl, g1, rfl⟩ := h
    obtain ⟨x0, rfl, o0⟩ := open_Group _ _ g0
    obtain ⟨x1, rfl, o1⟩ := open_list Tryz.underlying25 (open_Disk) _ _ g1
    exact ⟨⟨x0, x1⟩, rfl, o0, o1⟩
def HouseT.shp : List Shp := [.sl 90 3 ReplicaT.shp, .leaf, .leaf, .sl 92 2 DiskT.shp]
def HouseT.mkM (x : HouseT) (k : Int) : HouseT := ⟨⟨mkL ReplicaT.mkM ReplicaT.cnt x.Group.Reps k, k + (cntL ReplicaT.cnt x.Group.Reps : Int), k + (cntL ReplicaT.cnt x.Group.Reps : Int) + 1⟩, mkL DiskT.mkM DiskT.cnt x.Disks (k + (cntL ReplicaT.cnt x.Group.Reps : Int) + 1 + 1)⟩
def HouseT.cnt (x : HouseT) : Nat := cntL ReplicaT.cnt x.Group.Reps + 1 + 1 + cntL DiskT.cnt x.Disks
def HouseT.mkS (x : HouseT) (k : Int) : HouseT := ⟨⟨mkL ReplicaT.mkM ReplicaT.cnt x.Group.Reps k, x.Group.Term, x.Group.Lead⟩, mkL DiskT.mkM DiskT.cnt x.Disks (k + (cntL ReplicaT.cnt x.Group.Reps : Int))⟩
def HouseT.cntS (x : HouseT) (k : Int) : Int := k + (cntL ReplicaT.cnt x.Group.Reps : Int) + (cntL DiskT.cnt x.Disks : Int)
theorem HouseT.cnt_w (x : HouseT) : HouseT.cnt x ≤ 100 * (1 + HouseT.w x) := by
  have h0 := cntL_w100 (cnt := ReplicaT.cnt) (w := ReplicaT.w) (fun y => ReplicaT.cnt_w y) x.Group.Reps
  have h1 := cntL_w100 (cnt := DiskT.cnt) (w := DiskT.w) (fun y => DiskT.cnt_w y) x.Disks
  simp only [GroupT.cnt, HouseT.cnt, GroupT.w, HouseT.w] at *
  omega
theorem HouseT.cntS_w (x : HouseT) (k : Int) : HouseT.cntS x k ≤ k + 100 * (1 + (HouseT.w x : Int)) := by
  have h0 := cntL_w100 (cnt := ReplicaT.cnt) (w := ReplicaT.w) (fun y => ReplicaT.cnt_w y) x.Group.Reps
  have h1 := cntL_w100 (cnt := DiskT.cnt) (w := DiskT.w) (fun y => DiskT.cnt_w y) x.Disks
  simp only [HouseT.cntS, GroupT.cnt, HouseT.cnt, GroupT.w, HouseT.w] at *
  omega
theorem c_laws_szHouse (x : HouseT) (n : Int) (h0 : 0 ≤ n) (h1 : n ≤ 1048576) (hok : x.ok) : PC Tryz.prog false 8 [.agg x.cells, .int .i64 n] (.int .i64 (szN n x.w)) [] := by
  have oGroup : GroupT.ok x.Group := hok.1
  have oDisks : (okL DiskT.ok) x.Disks := hok.2
  have hw : x.w = GroupT.w x.Group + wL DiskT.w x.Disks := rfl
  refine pc_at Tryz.func8 rfl (by kernel_rfl) 18 [.tmp 4] rfl rfl ?_
  repeat' (conv => whnf); first
 | refine nameB_true ?_
 | refine nameB_dno (by assumption) ?_
 | refine splitB_true ?_
 | refine splitB_false ?_
 | (by_cases hn0 : n - ((GroupT.w x.Group : Nat) : Int) < 0 <;> first | refine Call0 (pc_szneg (c_laws_szGroup x.Group n (by (try simp only [i64_wrap_eq] at *); omega) (by (try simp only [i64_wrap_eq] at *); omega) oGroup) hn0) rfl rfl ?_ | refine Call0 (pc_szpos (c_laws_szGroup x.Group n (by (try simp only [i64_wrap_eq] at *); omega) (by (try simp only [i64_wrap_eq] at *); omega) oGroup) hn0) rfl rfl ?_)
 | (by_cases hn1 : (n - ((GroupT.w x.Group : Nat) : Int)) - ((wL DiskT.w x.Disks : Nat) : Int) < 0 <;> first | refine Call0 (pc_szneg (c_laws_szDiskS x.Disks (n - ((GroupT.w x.Group : Nat) : Int)) (by (try simp only [i64_wrap_eq] at *); omega) (by (try simp only [i64_wrap_eq] at *); omega) oDisks) hn1) rfl rfl ?_ | refine Call0 (pc_szpos (c_laws_szDiskS x.Disks (n - ((GroupT.w x.Group : Nat) : Int)) (by (try simp only [i64_wrap_eq] at *); omega) (by (try simp only [i64_wrap_eq] at *); omega) oDisks) hn1) rfl rfl ?_)
 | refine side_and (side_of (by first | exact Nat.le_of_ble_eq_true rfl | exact rfl | omega | fail)) ?_
 | fail
  all_goals
    conv => whnf
    refine OutA_plain rfl rfl ?_
    refine congrArg (AV.int .i64) ?_
    (try simp only [i64_wrap_eq] at *)
    first | exact szN_neg (by omega) | exact szN_pos (by omega) (by omega)
theorem c_laws_toHouse (x : HouseT) (hw : HouseT.w x ≤ 1048576) : PC Tryz.prog false 11 [.agg x.cells] (.agg [.own 0, .int .i64 x.Group.Term, .int .i64 x.Group.Lead, .own 1]) [⟨.deep ReplicaT.shp, 90, 3, (x.Group.Reps.map ReplicaT.cells)⟩, ⟨.deep DiskT.shp, 92, 2, (x.Disks.map DiskT.cells)⟩] := by
  have hw2 : x.w = GroupT.w x.Group + wL DiskT.w x.Disks := rfl
  refine pc_at Tryz.func11 rfl (by kernel_rfl) 13 [.cell 2 41] rfl rfl ?_
  repeat' (conv => whnf); first
 | refine CallF (c_laws_toGroup x.Group (by omega)) rfl rfl rfl (Nat.le_of_ble_eq_true rfl) ?_
 | refine CallF (c_laws_toDiskS x.Disks (by omega)) rfl rfl rfl (Nat.le_of_ble_eq_true rfl) ?_
 | refine side_and (side_of (by first | exact ⟨Nat.le_of_ble_eq_true rfl, rfl⟩ | fail)) ?_
 | refine side_and (side_of (by first | exact Nat.le_of_ble_eq_true rfl | exact rfl | omega | fail)) ?_
 | refine side_and (side_of (by first | (and_intros <;> first | rfl | omega | exact Nat.le_of_ble_eq_true rfl) | fail)) ?_
 | fail
  all_goals
    conv => whnf
    exact OutA_deep rfl rfl rfl ⟨⟨rfl, rfl⟩, ⟨⟨rfl, rfl⟩, trivial⟩⟩ rfl
theorem c_laws_toHouse_ro (x : HouseT) (hw : HouseT.w x ≤ 1048576) : PC Tryz.prog true 11 [.agg x.cells] (.agg x.cells) [] := by
  have hw2 : x.w = GroupT.w x.Group + wL DiskT.w x.Disks := rfl
  refine pc_at Tryz.func11 rfl (by kernel_rfl) 13 [.cell 2 41] rfl rfl ?_
  repeat' (conv => whnf); first
 | refine CallF (c_laws_toGroup x.Group (by omega)) rfl rfl rfl (Nat.le_of_ble_eq_true rfl) ?_
 | refine CallF (c_laws_toDiskS x.Disks (by omega)) rfl rfl rfl (Nat.le_of_ble_eq_true rfl) ?_
 | refine side_and (side_of (by first | exact ⟨Nat.le_of_ble_eq_true rfl, rfl⟩ | fail)) ?_
 | refine side_and (side_of (by first | exact Nat.le_of_ble_eq_true rfl | exact rfl | omega | fail)) ?_
 | refine side_and (side_of (by first | (and_intros <;> first | rfl | omega | exact Nat.le_of_ble_eq_true rfl) | fail)) ?_
 | fail
  all_goals
    conv => whnf
    refine OutA_frz [8224, 12320] ?_
    conv => whnf
    exact OutA_plain rfl rfl rfl
theorem c_laws_eqHouse (x y : HouseT) (hok : x.ok) : PC Tryz.prog false 14 [.agg x.cells, .agg y.cells] (.bool (decide (x = y))) [] := by
  refine pc_at Tryz.func14 rfl (by kernel_rfl) 17 [.tmp 4] rfl rfl ?_
  repeat' (conv => whnf); first
 | refine nameB_true ?_
 | refine nameB_false ?_
 | (refine nameB_dec (fun h => ?_) (fun h => ?_) <;> try simp only [lensB] at h)
 | refine splitB_true ?_
 | refine splitB_false ?_
 | refine Call0 (c_laws_eqGroup x.Group y.Group (hok.1)) rfl rfl ?_
 | refine Call0 (c_laws_eqDiskS x.Disks y.Disks (hok.2)) rfl rfl ?_
 | refine side_and (side_of (by first | exact Nat.le_of_ble_eq_true rfl | exact rfl | omega | fail)) ?_
 | fail
  all_goals
    conv => whnf
    refine OutA_plain rfl rfl ?_
    first
    | exact bool_no (fun e => absurd (congrArg HouseT.Group e) (by assumption))
    | exact bool_no (fun e => absurd (congrArg HouseT.Disks e) (by assumption))
    | exact bool_yes (HouseT.same (by assumption) (by assumption))
theorem m_laws_markHouse (x : HouseT) (k : Int) (h0 : 0 ≤ k) (h1 : HouseT.cntS x k ≤ 1152921504606846976) : MC Tryz.prog 16 true x.cells HouseT.shp k (HouseT.mkS x k).cells (HouseT.cntS x k) := by
  have hcx : HouseT.cntS x k = k + (cntL ReplicaT.cnt x.Group.Reps : Int) + (cntL DiskT.cnt x.Disks : Int) := rfl
  refine mc_of Tryz.func16 rfl (by kernel_rfl) 14 [.tmp 4] [.own 0, .int .i64 x.Group.Term, .int .i64 x.Group.Lead, .own 1] rfl rfl (fun e => by first | rfl | cases e) rfl rfl ?_
  repeat' (conv => whnf); first
 | refine CallMs (m_laws_markGroup x.Group k (by omega) (by have hss : GroupT.cntS x.Group k = k + (cntL ReplicaT.cnt x.Group.Reps : Int) := rfl; omega)) [] trivial rfl rfl ?_
 | refine CallM1 (m_laws_markDiskS x.Disks (k + (cntL ReplicaT.cnt x.Group.Reps : Int)) (by omega) (by omega) (by have hll := cntL_len_Disk x.Disks; omega)) [] trivial rfl rfl ?_
 | refine side_and (side_of (by first | exact Nat.le_of_ble_eq_true rfl | exact rfl | omega | fail)) ?_
 | fail
  all_goals
    conv => whnf
    exact OutM_of (by rfl) (by rfl) (by rfl) (by rfl) (by rfl)
theorem c_laws_heldHouse (x : HouseT) (k : Int) (h0 : 0 ≤ k) (h1 : HouseT.cntS x k ≤ 1152921504606846976) : PC Tryz.prog false 18 [.agg (HouseT.mkS x k).cells, .int .i64 k] (.int .i64 (HouseT.cntS x k)) [] := by
  have hcx : HouseT.cntS x k = k + (cntL ReplicaT.cnt x.Group.Reps : Int) + (cntL DiskT.cnt x.Disks : Int) := rfl
  have hs0 : GroupT.cntS x.Group k = k + (cntL ReplicaT.cnt x.Group.Reps : Int) := rfl
  refine pc_at Tryz.func18 rfl (by kernel_rfl) 18 [.tmp 4] rfl rfl ?_
  repeat' (conv => whnf); first
 | refine nameB_no (b := decide (_ < (0 : Int))) (decide_eq_false (by omega)) ?_
 | refine splitB_false ?_
 | refine Call0 (c_laws_heldGroup x.Group (k) (by omega) (by have hss : GroupT.cntS x.Group k = k + (cntL ReplicaT.cnt x.Group.Reps : Int) := rfl; omega)) rfl rfl ?_
 | refine Call0 (c_laws_heldDiskS x.Disks (k + (cntL ReplicaT.cnt x.Group.Reps : Int)) (by omega) (by omega) (by have hll := cntL_len_Disk x.Disks; omega)) rfl rfl ?_
 | refine side_and (side_of (by first | exact Nat.le_of_ble_eq_true rfl | exact rfl | omega | fail)) ?_
 | fail
  all_goals
    conv => whnf
    exact OutA_plain rfl rfl rfl
def inB (a n b : Int) : Bool := decide (a ≤ n) && decide (n ≤ b)
theorem c_spec_l1In (n a b : Int) : PC Tryz.prog false 80 [.int .i64 n, .int .i64 a, .int .i64 b] (.bool (inB a n b)) [] := by
  refine pc_at Tryz.func80 rfl (by kernel_rfl) 15 [.tmp 6] rfl rfl ?_
  repeat' (conv => whnf); first
 | (refine nameB_dec (fun h => ?_) (fun h => ?_) <;> try simp only [lensB] at h)
 | refine splitB_true ?_
 | refine splitB_false ?_
 | fail
  all_goals
    conv => whnf
    refine OutA_plain rfl rfl ?_
    first
    | rfl
    | (simp_all [inB, named, AV.sub, AV.sub.subL]; done)
    | (simp_all [inB, named, AV.sub, AV.sub.subL] <;> omega)
def isLD (b : UInt8) : Bool := (decide ((b.toNat : Int) ≥ 97) && decide ((b.toNat : Int) ≤ 122)) || (decide ((b.toNat : Int) ≥ 48) && decide ((b.toNat : Int) ≤ 57))
def okB (more : List UInt8) (b : UInt8) : Bool := isLD b || more.any fun c => c == b
def okBytes (s more : List UInt8) : Bool := s.all (okB more)
def okKey (s : List UInt8) : Bool := inB 1 s.length 12 && okBytes s [46, 47]

theorem c_impl_within (n a b : Int) : PC Tryz.prog false 111 [.int .i64 n, .int .i64 a, .int .i64 b] (.bool (inB a n b)) [] := by
  refine pc_at Tryz.func111 rfl (by kernel_rfl) 15 [.tmp 6] rfl rfl ?_
  repeat' (conv => whnf); first
 | (refine nameB_dec (fun h => ?_) (fun h => ?_) <;> try simp only [lensB] at h)
 | refine splitB_true ?_
 | refine splitB_false ?_
 | fail
  all_goals
    conv => whnf
    refine OutA_plain rfl rfl ?_
    first
    | rfl
    | (simp_all [inB, named, AV.sub, AV.sub.subL]; done)
    | (simp_all [inB, named, AV.sub, AV.sub.subL] <;> omega)
theorem c_impl_isLowerOrDigit (b : UInt8) : PC Tryz.prog false 219 [.int .u8 (b.toNat : Int)] (.bool (isLD b)) [] := by
  refine pc_at Tryz.func219 rfl (by kernel_rfl) 17 [.tmp 2] rfl rfl ?_
  repeat' (conv => whnf); first
 | (refine nameB_dec (fun h => ?_) (fun h => ?_) <;> try simp only [lensB] at h)
 | refine splitB_true ?_
 | refine splitB_false ?_
 | fail
  all_goals
    conv => whnf
    refine OutA_plain rfl rfl ?_
    first
    | rfl
    | (simp_all [isLD, named, AV.sub, AV.sub.subL]; done)
    | (simp_all [isLD, named, AV.sub, AV.sub.subL] <;> omega)
theorem c_internal_bytealg_IndexByteString (s : List UInt8) (b : UInt8) : PC Tryz.prog false 222 [.str s, .int .u8 (b.toNat : Int)] (.int .i64 (byteIdx s b)) [] :=
  pc_indexByte Tryz.func222 (by kernel_rfl) (by kernel_rfl) (by kernel_rfl) (by kernel_rfl) s b
theorem c_internal_stringslite_IndexByte (s : List UInt8) (b : UInt8) : PC Tryz.prog false 221 [.str s, .int .u8 (b.toNat : Int)] (.int .i64 (byteIdx s b)) [] := by
  refine pc_at Tryz.func221 rfl (by kernel_rfl) 8 [.tmp 4] rfl rfl ?_
  repeat' (conv => whnf); first
 | refine Call0 (c_internal_bytealg_IndexByteString ..) rfl rfl ?_
 | fail
  all_goals
    conv => whnf
    refine OutA_plain rfl rfl ?_
    first
    | rfl
    | (simp_all [named, AV.sub, AV.sub.subL]; done)
    | (simp_all [named, AV.sub, AV.sub.subL] <;> omega)
theorem c_strings_IndexByte (s : List UInt8) (b : UInt8) : PC Tryz.prog false 220 [.str s, .int .u8 (b.toNat : Int)] (.int .i64 (byteIdx s b)) [] := by
  refine pc_at Tryz.func220 rfl (by kernel_rfl) 8 [.tmp 4] rfl rfl ?_
  repeat' (conv => whnf); first
 | refine Call0 (c_internal_stringslite_IndexByte ..) rfl rfl ?_
 | fail
  all_goals
    conv => whnf
    refine OutA_plain rfl rfl ?_
    first
    | rfl
    | (simp_all [named, AV.sub, AV.sub.subL]; done)
    | (simp_all [named, AV.sub, AV.sub.subL] <;> omega)
theorem okBytes_at {s more : List UInt8} {k : Nat} {B : Bool} (h : okBytes (s.drop k) more = B) (hk : k < s.length) : (okB more (s.getD k 0) && okBytes (s.drop (k + 1)) more) = B := by
  rw [drop_getD (d := 0) hk] at h
  exact h
theorem okB_1 {more : List UInt8} {b : UInt8} (h : isLD b = true) : okB more b = true := by simp only [okB, h, Bool.true_or]
theorem okB_2 {more : List UInt8} {b : UInt8} (h : isLD b = false) (h2 : byteIdx more b < 0) : okB more b = false := by
  simp only [okB, h, Bool.false_or]
  exact byteIdx_neg.1 h2
theorem okB_3 {more : List UInt8} {b : UInt8} (h2 : ¬ byteIdx more b < 0) : okB more b = true := by
  unfold okB
  cases h : isLD b with
  | true => rfl
  | false =>
    rw [byteIdx_neg] at h2
    simpa using h2
theorem okBytes_end {s more : List UInt8} {k : Nat} {B : Bool} (h : okBytes (s.drop k) more = B) (hk : ¬ k < s.length) : B = true := by
  rw [List.drop_eq_nil_of_le (by omega)] at h
  exact h.symm
theorem c_impl_hasBytes (s more : List UInt8) (hs : s.length ≤ 9223372036854775807) : PC Tryz.prog false 216 [.str s, .str more] (.bool (okBytes s more)) [] := by
  refine pc_at Tryz.func216 rfl (by kernel_rfl) 25 [.tmp 4] rfl rfl ?_
  repeat' (conv => whnf); first
 | refine nameB_true ?_
 | refine nameB_false ?_
 | (refine nameB_dec (fun h => ?_) (fun h => ?_) <;> try simp only [lensB] at h)
 | (refine nameB_cases (fun h => ?_) (fun h => ?_) <;> try simp only [nmL, lensB] at h)
 | refine splitB_true ?_
 | refine splitB_false ?_
 | ((refine Loop_at [0, 1, 7] [] (Nat) (fun k => okBytes (s.drop k) more = okBytes s more ∧ k ≤ s.length) (fun k => [(8, .int .i64 (k : Nat))]) (fun k => []) (fun k => s.length - k) 0 ⟨by first | (simp_all <;> fail) | rfl | fail, trivial⟩ trivial (by (try dsimp only); first | trivial | (refine ⟨?_, by omega⟩; simp <;> fail) | (simp <;> fail) | fail) ?_; (conv => whnf); refine side_and (side_of (by first | exact fun k => rfl | exact fun k => by simp [headOk, closedE, closedO, closedL, AV.closed, hcap.closed, hasId, AObj.box, BK.ofB])) ?_; rintro k hT; try dsimp only at hT))
 | (refine Again_of (k + 1) ⟨by first | rfl | exact i64_next (by omega) | (simp_all <;> fail) | fail, trivial⟩ trivial (by first | (and_intros <;> first | rfl | trivial) | fail) (by first | (and_intros <;> first | rfl | trivial) | fail) rfl rfl rfl (by (try dsimp only); first | ((have hg := okBytes_at hT.1 (by omega); refine ⟨?_, by omega⟩; first | (rw [okB_1 (by assumption)] at hg; exact hg) | (rw [okB_3 (by assumption)] at hg; exact hg))) | fail) (show _ < _ by (try dsimp only); omega))
 | refine Call0 (c_impl_isLowerOrDigit ..) rfl rfl ?_
 | refine Call0 (c_strings_IndexByte ..) rfl rfl ?_
 | refine side_and (side_of (by first | exact Nat.le_of_ble_eq_true rfl | exact rfl | omega | fail)) ?_
 | fail
  all_goals
    conv => whnf
    refine OutA_plain rfl rfl ?_
    first
    | (have hg := okBytes_at hT.1 (by omega); rw [okB_2 (by assumption) (by assumption)] at hg; exact congrArg AV.bool hg)
    | exact congrArg AV.bool (okBytes_end hT.1 (by omega)).symm
theorem okB_at {more : List UInt8} {b : UInt8} {ok B : Bool} {i : Nat} (h : (ok || (more.drop i).any fun c => c == b) = B) (hk : i < more.length) : ((ok || more.getD i 0 == b) || (more.drop (i + 1)).any fun c => c == b) = B := by
  rw [drop_getD (d := 0) hk] at h
  rw [← h, List.any_cons, Bool.or_assoc]
theorem okB_end {more : List UInt8} {b : UInt8} {ok B : Bool} {i : Nat} (h : (ok || (more.drop i).any fun c => c == b) = B) (hk : ¬ i < more.length) : ok = B := by
  rw [List.drop_eq_nil_of_le (by omega)] at h
  simpa using h
theorem isLD_of {b : UInt8} {x : Bool} (h : x = isLD b) (more : List UInt8) : (x || (more.drop 0).any fun c => c == b) = okB more b := by
  rw [h]
  rfl
theorem isLD_yes {b : UInt8} (h : ((b.toNat : Int) ≥ 97 ∧ (b.toNat : Int) ≤ 122) ∨ ((b.toNat : Int) ≥ 48 ∧ (b.toNat : Int) ≤ 57)) : true = isLD b := by
  have : isLD b = true := by simpa only [isLD, Bool.or_eq_true, Bool.and_eq_true, decide_eq_true_eq] using h
  exact this.symm
theorem isLD_no {b : UInt8} (h : ¬ (((b.toNat : Int) ≥ 97 ∧ (b.toNat : Int) ≤ 122) ∨ ((b.toNat : Int) ≥ 48 ∧ (b.toNat : Int) ≤ 57))) : false = isLD b := by
  cases hb : isLD b with
  | false => rfl
  | true => exact absurd (by simpa only [isLD, Bool.or_eq_true, Bool.and_eq_true, decide_eq_true_eq] using hb) h
theorem okB_hit {a b : UInt8} {ok : Bool} (h : b = a) : (ok || a == b) = true := by simp [h]
theorem okB_mis {a b : UInt8} {ok : Bool} (h : ¬ b = a) : (ok || a == b) = ok := by
  have : (a == b) = false := by simpa using fun e => h e.symm
  simp [this]
theorem c_spec_l3Bytes (s more : List UInt8) (hs : s.length ≤ 9223372036854775807) (hm : more.length ≤ 9223372036854775807) : PC Tryz.prog false 214 [.str s, .str more] (.bool (okBytes s more)) [] := by
  refine pc_at Tryz.func214 rfl (by kernel_rfl) 54 [.tmp 4] rfl rfl ?_
  repeat' (conv => whnf); first
 | (refine nameB_dec (fun h => ?_) (fun h => ?_) <;> try simp only [lensB] at h)
 | (refine nameB_cases (fun h => ?_) (fun h => ?_) <;> try simp only [nmL, lensB] at h)
 | refine splitB_true ?_
 | refine splitB_false ?_
 | (refine splitB_intro (fun h => ?_) (fun h => ?_) <;> subst h)
 | refine draw_text (by kernel_rfl) (by kernel_rfl) (by kernel_rfl) ?_
 | (refine Loop_at [0, 1] [] (Nat) (fun k => okBytes (s.drop k) more = okBytes s more ∧ k ≤ s.length) (fun k => [(5, .int .i64 (k : Nat))]) (fun k => []) (fun k => s.length - k) 0 ⟨by first | (simp_all <;> fail) | rfl | fail, trivial⟩ trivial (by (try dsimp only); first | trivial | (refine ⟨?_, by omega⟩; simp <;> fail) | (simp <;> fail) | fail) ?_; (conv => whnf); refine side_and (side_of (by first | exact fun k => rfl | exact fun k => by simp [headOk, closedE, closedO, closedL, AV.closed, hcap.closed, hasId, AObj.box, BK.ofB])) ?_; rintro k hT; try dsimp only at hT)
 | (refine Loop_at [0, 1, 5] [] (Nat × Bool) (fun j => match j with | (i, ok) => (ok || (more.drop i).any fun c => c == s.getD k 0) = okB more (s.getD k 0) ∧ i ≤ more.length) (fun j => match j with | (i, ok) => [(7, .int .i64 (i : Nat)), (6, .bool ok)]) (fun j => match j with | (i, ok) => []) (fun j => match j with | (i, ok) => more.length - i) (0, _) ⟨by first | (simp_all <;> fail) | rfl | fail, rfl, trivial⟩ trivial (by (try dsimp only); first | (first | exact ⟨isLD_of (isLD_yes (by omega)) more, by omega⟩ | exact ⟨isLD_of (isLD_no (by omega)) more, by omega⟩) | fail) ?_; (conv => whnf); refine side_and (side_of (by first | exact fun ⟨i, ok⟩ => rfl | exact fun ⟨i, ok⟩ => by simp [headOk, closedE, closedO, closedL, AV.closed, hcap.closed, hasId, AObj.box, BK.ofB])) ?_; rintro ⟨i, ok⟩ hI; try dsimp only at hI)
 | refine Again_of (k + 1) ⟨by first | rfl | exact i64_next (by omega) | (simp_all <;> fail) | fail, trivial⟩ trivial (by first | (and_intros <;> first | rfl | trivial) | fail) (by first | (and_intros <;> first | rfl | trivial) | fail) rfl rfl rfl (by (try dsimp only); first | ((have hg := okBytes_at hT.1 (by omega); rw [← okB_end hI.1 (by omega), show ok = true by assumption] at hg; exact ⟨hg, by omega⟩)) | fail) (show _ < _ by (try dsimp only); omega)
 | refine Again_of (i + 1, _) ⟨by first | rfl | exact i64_next (by omega) | (simp_all <;> fail) | fail, rfl, trivial⟩ trivial (by first | (and_intros <;> first | rfl | trivial) | fail) (by first | (and_intros <;> first | rfl | trivial) | fail) rfl rfl rfl (by (try dsimp only); first | ((have hg := okB_at hI.1 (by omega); refine ⟨?_, by omega⟩; first | (rw [okB_hit (by assumption)] at hg; exact hg) | (rw [okB_mis (by assumption)] at hg; exact hg) | (simpa using hg))) | fail) (show _ < _ by (try dsimp only); omega)
 | refine side_and (side_of (by first | exact Nat.le_of_ble_eq_true rfl | exact rfl | omega | fail)) ?_
 | fail
  all_goals
    conv => whnf
    refine OutA_plain rfl rfl ?_
    first
    | (have hg := okBytes_at hT.1 (by omega); rw [← okB_end hI.1 (by omega), show ok = false by assumption] at hg; exact congrArg AV.bool hg)
    | exact congrArg AV.bool (okBytes_end hT.1 (by omega)).symm
theorem c_impl_GoodKey (s : List UInt8) (hs : s.length ≤ 9223372036854775807) : PC Tryz.prog false 207 [.str s] (.bool (okKey s)) [] := by
  refine pc_at Tryz.func207 rfl (by kernel_rfl) 10 [.tmp 2] rfl rfl ?_
  repeat' (conv => whnf); first
 | (refine nameB_cases (fun h => ?_) (fun h => ?_) <;> try simp only [nmL, lensB] at h)
 | refine splitB_true ?_
 | refine splitB_false ?_
 | refine Call0 (c_impl_within ..) rfl rfl ?_
 | refine Call0 (c_impl_hasBytes s _ hs) rfl rfl ?_
 | fail
  all_goals
    conv => whnf
    refine OutA_plain rfl rfl ?_
    first
    | rfl
    | (simp_all [okKey, named, AV.sub, AV.sub.subL]; done)
    | (simp_all [okKey, named, AV.sub, AV.sub.subL] <;> omega)
theorem c_spec_l3Key (s : List UInt8) (hs : s.length ≤ 9223372036854775807) : PC Tryz.prog false 199 [.str s] (.bool (okKey s)) [] := by
  refine pc_at Tryz.func199 rfl (by kernel_rfl) 10 [.tmp 2] rfl rfl ?_
  repeat' (conv => whnf); first
 | (refine nameB_cases (fun h => ?_) (fun h => ?_) <;> try simp only [nmL, lensB] at h)
 | refine splitB_true ?_
 | refine splitB_false ?_
 | refine Call0 (c_spec_l1In ..) rfl rfl ?_
 | refine Call0 (c_spec_l3Bytes s _ hs (by simp)) rfl rfl ?_
 | fail
  all_goals
    conv => whnf
    refine OutA_plain rfl rfl ?_
    first
    | rfl
    | (simp_all [okKey, named, AV.sub, AV.sub.subL]; done)
    | (simp_all [okKey, named, AV.sub, AV.sub.subL] <;> omega)
def rising (p : Option (List UInt8)) : List (List UInt8) → Bool
  | [] => true
  | x :: xs => okKey x && (match p with | none => true | some q => Op.bytesLess q x) && rising (some x) xs
def prevOf {α : Type} (xs : List α) (k : Nat) : Option α := if k = 0 then none else xs[k - 1]?
theorem prevOf_next {α : Type} {xs : List α} {k : Nat} {x : α} (hx : xs[k]? = some x) : prevOf xs (k + 1) = some x := by simp [prevOf, hx]
theorem prevOf_pos {α : Type} {xs : List α} {k : Nat} {y : α} (h : (k : Int) > 0) (hy : xs[k - 1]? = some y) : prevOf xs k = some y := by
  unfold prevOf
  rw [if_neg (by omega)]
  exact hy
theorem prevOf_zero {α : Type} {xs : List α} {k : Nat} (h : ¬ (k : Int) > 0) : prevOf xs k = none := by
  unfold prevOf
  rw [if_pos (by omega)]
theorem rising_at {xs : List (List UInt8)} {k : Nat} {x : List UInt8} {B : Bool} (h : rising (prevOf xs k) (xs.drop k) = B) (hx : xs[k]? = some x) :
    (okKey x && (match prevOf xs k with | none => true | some q => Op.bytesLess q x) && rising (prevOf xs (k + 1)) (xs.drop (k + 1))) = B := by
  rw [drop_get hx] at h
  rw [prevOf_next hx]
  exact h
theorem rising_end {xs : List (List UInt8)} {k : Nat} {B : Bool} (h : rising (prevOf xs k) (xs.drop k) = B) (hk : ¬ (k : Int) < xs.length) : B = true := by
  rw [List.drop_eq_nil_of_le (by omega)] at h
  exact h.symm
theorem rising_bad1 {xs : List (List UInt8)} {k : Nat} {x : List UInt8} {B : Bool} (h : rising (prevOf xs k) (xs.drop k) = B) (hx : xs[k]? = some x) (h1 : okKey x = false) : B = false := by
  have := rising_at h hx
  rw [h1] at this
  simpa using this.symm
theorem rising_bad2 {xs : List (List UInt8)} {k : Nat} {x y : List UInt8} {B : Bool} (h : rising (prevOf xs k) (xs.drop k) = B) (hx : xs[k]? = some x) (hk : (k : Int) > 0) (hy : xs[k - 1]? = some y) (h1 : Op.bytesLess y x = false) : B = false := by
  have := rising_at h hx
  rw [prevOf_pos hk hy] at this
  simp only [h1] at this
  simpa using this.symm
theorem rising_go1 {xs : List (List UInt8)} {k : Nat} {x : List UInt8} {B : Bool} (h : rising (prevOf xs k) (xs.drop k) = B) (hx : xs[k]? = some x) (h1 : okKey x = true) (hk : ¬ (k : Int) > 0) : rising (prevOf xs (k + 1)) (xs.drop (k + 1)) = B := by
  have := rising_at h hx
  rw [prevOf_zero hk] at this
  simpa [h1] using this
theorem rising_go2 {xs : List (List UInt8)} {k : Nat} {x y : List UInt8} {B : Bool} (h : rising (prevOf xs k) (xs.drop k) = B) (hx : xs[k]? = some x) (h1 : okKey x = true) (hk : (k : Int) > 0) (hy : xs[k - 1]? = some y) (h2 : Op.bytesLess y x = true) : rising (prevOf xs (k + 1)) (xs.drop (k + 1)) = B := by
  have := rising_at h hx
  rw [prevOf_pos hk hy] at this
  simpa [h1, h2] using this
theorem leq_no {x y : List UInt8} (h : (Op.bytesLess x y || x == y) = true) : Op.bytesLess y x = false := by rw [bl_leq] at h; simpa using h
theorem leq_yes {x y : List UInt8} (h : (Op.bytesLess x y || x == y) = false) : Op.bytesLess y x = true := by rw [bl_leq] at h; simpa using h
theorem c_impl_areRising (xs : List (List UInt8)) (hok : okL okS xs) : PC Tryz.prog false 188 [.sl (xs.map strC)] (.bool (rising none xs)) [] := by
  have hl := hok.1
  refine pc_at Tryz.func188 rfl (by kernel_rfl) 29 [.tmp 2] rfl rfl ?_
  repeat' (conv => whnf); first
 | refine ix_as (m := k - 1) (by simp only [i64_wrap_eq]; omega) (by omega) (fun y hy => ?_)
 | (refine nameB_cases (b := Op.bytesLess _ _ || _ == _) (fun h => ?_) (fun h => ?_))
 | refine nameB_true ?_
 | refine nameB_false ?_
 | (refine nameB_dec (fun h => ?_) (fun h => ?_) <;> try simp only [lensB] at h)
 | (refine nameB_cases (fun h => ?_) (fun h => ?_) <;> try simp only [nmL, lensB] at h)
 | refine splitB_true ?_
 | refine splitB_false ?_
 | ((refine Loop_at [0, 5, 6] [] (Nat) (fun k => rising (prevOf xs k) (xs.drop k) = rising none xs ∧ k ≤ xs.length) (fun k => [(7, .int .i64 (k : Nat))]) (fun k => []) (fun k => xs.length - k) 0 ⟨by first | (simp_all <;> fail) | rfl | fail, trivial⟩ trivial (by (try dsimp only); first | (exact ⟨rfl, by omega⟩) | fail) ?_; (conv => whnf); refine side_and (side_of (by first | exact fun k => rfl | exact fun k => by simp [headOk, closedE, closedO, closedL, AV.closed, hcap.closed, hasId, AObj.box, BK.ofB])) ?_; rintro k hT; try dsimp only at hT))
 | (refine Again_of (k + 1) ⟨by first | rfl | exact i64_next (by omega) | (simp_all <;> fail) | fail, trivial⟩ trivial (by first | (and_intros <;> first | rfl | trivial) | fail) (by first | (and_intros <;> first | rfl | trivial) | fail) rfl rfl rfl (by (try dsimp only); first | (first | exact ⟨rising_go1 hT.1 hx (by assumption) (by assumption), by omega⟩ | exact ⟨rising_go2 hT.1 hx (by assumption) (by assumption) hy (leq_yes h), by omega⟩) | fail) (show _ < _ by (try dsimp only); omega))
 | refine Call0 (c_impl_GoodKey x (hok.2 x (List.mem_of_getElem? hx))) rfl rfl ?_
 | (refine ix_map (by omega) (by (try simp only [List.length_take]); omega) (fun x hx => ?_); try simp only [Int.toNat_natCast] at hx)
 | refine side_and (side_of (by first | exact Nat.le_of_ble_eq_true rfl | exact rfl | omega | fail)) ?_
 | fail
  all_goals
    conv => whnf
    refine OutA_plain rfl rfl ?_
    first
    | exact congrArg AV.bool (rising_bad1 hT.1 hx (by assumption)).symm
    | exact congrArg AV.bool (rising_bad2 hT.1 hx (by assumption) hy (leq_no h)).symm
    | exact congrArg AV.bool (rising_end hT.1 (by assumption)).symm
def prevB {α : Type} (r : α → α → Bool) (pre : List α) (x : α) : Bool := match pre.getLast? with | none => true | some y => r y x
theorem prevB_zero {α : Type} {r : α → α → Bool} {xs : List α} {k : Nat} {x : α} (hk : ¬ (k : Int) > 0) : prevB r (xs.take k) x = true := by
  obtain rfl : k = 0 := by omega
  simp [prevB]
theorem prevB_pos {α : Type} {r : α → α → Bool} {xs : List α} {k : Nat} {x y : α} (hk : (k : Int) > 0) (hy : xs[k - 1]? = some y) : prevB r (xs.take k) x = r y x := by
  obtain ⟨k, rfl⟩ : ∃ m, k = m + 1 := ⟨k - 1, by omega⟩
  simp only [Nat.add_sub_cancel] at hy
  rw [take_get hy]
  simp [prevB]
def okTime (n : Int) : Bool := inB 1 n 100000
def okVal (s : List UInt8) : Bool := decide ((s.length : Int) ≤ 24) && okBytes s [46, 45, 44, 95]
def okStored (v : List UInt8) (g : Bool) : Bool := okVal v && !(g && !(v == []))
theorem c_impl_isTime (n : Int) : PC Tryz.prog false 187 [.int .i64 n] (.bool (okTime n)) [] := by
  refine pc_at Tryz.func187 rfl (by kernel_rfl) 5 [.tmp 2] rfl rfl ?_
  repeat' (conv => whnf); first
 | (refine nameB_cases (fun h => ?_) (fun h => ?_) <;> try simp only [nmL, lensB] at h)
 | refine Call0 (c_impl_within ..) rfl rfl ?_
 | fail
  all_goals
    conv => whnf
    refine OutA_plain rfl rfl ?_
    first
    | rfl
    | (simp only [okTime, *, named, AV.sub, AV.sub.subL, Bool.and_true, Bool.and_false, Bool.true_and, Bool.false_and, Bool.or_true, Bool.or_false, Bool.true_or, Bool.false_or, Bool.not_true, Bool.not_false, if_true, if_false, decide_true, decide_false, Bool.false_eq_true, Bool.and_self]; done)
    | (simp_all [okTime, named, AV.sub, AV.sub.subL]; done)
    | (simp_all [okTime, named, AV.sub, AV.sub.subL] <;> (intros; omega))
    | (exfalso; omega)
theorem c_spec_l3Time (n : Int) : PC Tryz.prog false 179 [.int .i64 n] (.bool (okTime n)) [] := by
  refine pc_at Tryz.func179 rfl (by kernel_rfl) 5 [.tmp 2] rfl rfl ?_
  repeat' (conv => whnf); first
 | (refine nameB_cases (fun h => ?_) (fun h => ?_) <;> try simp only [nmL, lensB] at h)
 | refine Call0 (c_spec_l1In ..) rfl rfl ?_
 | fail
  all_goals
    conv => whnf
    refine OutA_plain rfl rfl ?_
    first
    | rfl
    | (simp only [okTime, *, named, AV.sub, AV.sub.subL, Bool.and_true, Bool.and_false, Bool.true_and, Bool.false_and, Bool.or_true, Bool.or_false, Bool.true_or, Bool.false_or, Bool.not_true, Bool.not_false, if_true, if_false, decide_true, decide_false, Bool.false_eq_true, Bool.and_self]; done)
    | (simp_all [okTime, named, AV.sub, AV.sub.subL]; done)
    | (simp_all [okTime, named, AV.sub, AV.sub.subL] <;> (intros; omega))
    | (exfalso; omega)
theorem c_impl_GoodVal (s : List UInt8) (hs : s.length ≤ 9223372036854775807) : PC Tryz.prog false 218 [.str s] (.bool (okVal s)) [] := by
  refine pc_at Tryz.func218 rfl (by kernel_rfl) 10 [.tmp 2] rfl rfl ?_
  repeat' (conv => whnf); first
 | (refine nameB_dec (fun h => ?_) (fun h => ?_) <;> try simp only [lensB] at h)
 | (refine nameB_cases (fun h => ?_) (fun h => ?_) <;> try simp only [nmL, lensB] at h)
 | refine splitB_true ?_
 | refine splitB_false ?_
 | refine Call0 (c_impl_hasBytes s _ hs) rfl rfl ?_
 | fail
  all_goals
    conv => whnf
    refine OutA_plain rfl rfl ?_
    first
    | rfl
    | (simp only [okVal, *, named, AV.sub, AV.sub.subL, Bool.and_true, Bool.and_false, Bool.true_and, Bool.false_and, Bool.or_true, Bool.or_false, Bool.true_or, Bool.false_or, Bool.not_true, Bool.not_false, if_true, if_false, decide_true, decide_false, Bool.false_eq_true, Bool.and_self]; done)
    | (simp_all [okVal, named, AV.sub, AV.sub.subL]; done)
    | (simp_all [okVal, named, AV.sub, AV.sub.subL] <;> (intros; omega))
    | (exfalso; omega)
theorem c_spec_l3Val (s : List UInt8) (hs : s.length ≤ 9223372036854775807) : PC Tryz.prog false 215 [.str s] (.bool (okVal s)) [] := by
  refine pc_at Tryz.func215 rfl (by kernel_rfl) 10 [.tmp 2] rfl rfl ?_
  repeat' (conv => whnf); first
 | (refine nameB_dec (fun h => ?_) (fun h => ?_) <;> try simp only [lensB] at h)
 | (refine nameB_cases (fun h => ?_) (fun h => ?_) <;> try simp only [nmL, lensB] at h)
 | refine splitB_true ?_
 | refine splitB_false ?_
 | refine Call0 (c_spec_l3Bytes s _ hs (by simp)) rfl rfl ?_
 | fail
  all_goals
    conv => whnf
    refine OutA_plain rfl rfl ?_
    first
    | rfl
    | (simp only [okVal, *, named, AV.sub, AV.sub.subL, Bool.and_true, Bool.and_false, Bool.true_and, Bool.false_and, Bool.or_true, Bool.or_false, Bool.true_or, Bool.false_or, Bool.not_true, Bool.not_false, if_true, if_false, decide_true, decide_false, Bool.false_eq_true, Bool.and_self]; done)
    | (simp_all [okVal, named, AV.sub, AV.sub.subL]; done)
    | (simp_all [okVal, named, AV.sub, AV.sub.subL] <;> (intros; omega))
    | (exfalso; omega)
theorem c_impl_isStored (v : List UInt8) (g : Bool) (hv : okS v) : PC Tryz.prog false 211 [.str v, .bool g] (.bool (okStored v g)) [] := by
  refine pc_at Tryz.func211 rfl (by kernel_rfl) 15 [.tmp 4] rfl rfl ?_
  repeat' (conv => whnf); first
 | refine nameB_true ?_
 | refine nameB_false ?_
 | (refine nameB_cases (fun h => ?_) (fun h => ?_) <;> try simp only [nmL, lensB] at h)
 | refine splitB_true ?_
 | refine splitB_false ?_
 | (refine splitB_intro (fun h => ?_) (fun h => ?_) <;> subst h)
 | refine Call0 (c_impl_GoodVal v hv) rfl rfl ?_
 | fail
  all_goals
    conv => whnf
    refine OutA_plain rfl rfl ?_
    first
    | rfl
    | (simp only [okStored, *, named, AV.sub, AV.sub.subL, Bool.and_true, Bool.and_false, Bool.true_and, Bool.false_and, Bool.or_true, Bool.or_false, Bool.true_or, Bool.false_or, Bool.not_true, Bool.not_false, if_true, if_false, decide_true, decide_false, Bool.false_eq_true, Bool.and_self]; done)
    | (simp_all [okStored, named, AV.sub, AV.sub.subL]; done)
    | (simp_all [okStored, named, AV.sub, AV.sub.subL] <;> (intros; omega))
    | (exfalso; omega)
def okWr (k v : List UInt8) (g : Bool) : Bool := okKey k && okStored v g
theorem c_spec_l3Write (k v : List UInt8) (g : Bool) (hk : okS k) (hv : okS v) : PC Tryz.prog false 200 [.str k, .str v, .bool g] (.bool (okWr k v g)) [] := by
  refine pc_at Tryz.func200 rfl (by kernel_rfl) 21 [.tmp 6] rfl rfl ?_
  repeat' (conv => whnf); first
 | (refine nameB_cases (fun h => ?_) (fun h => ?_) <;> try simp only [nmL, lensB] at h)
 | refine splitB_true ?_
 | refine splitB_false ?_
 | refine Call0 (c_spec_l3Key k hk) rfl rfl ?_
 | refine Call0 (c_spec_l3Val v hv) rfl rfl ?_
 | fail
  all_goals
    conv => whnf
    refine OutA_plain rfl rfl ?_
    first
    | rfl
    | (simp only [okWr, okStored, *, named, AV.sub, AV.sub.subL, Bool.and_true, Bool.and_false, Bool.true_and, Bool.false_and, Bool.or_true, Bool.or_false, Bool.true_or, Bool.false_or, Bool.not_true, Bool.not_false, if_true, if_false, decide_true, decide_false, Bool.false_eq_true, Bool.and_self]; done)
    | (simp_all [okWr, okStored, named, AV.sub, AV.sub.subL]; done)
    | (simp_all [okWr, okStored, named, AV.sub, AV.sub.subL] <;> (intros; omega))
    | (exfalso; omega)
theorem rising_allPre {α : Type} (key : α → List UInt8) (p : α → Bool) : ∀ (xs pre : List α), (rising (pre.getLast?.map key) (xs.map key) && xs.all p) = allPre (fun pre x => (p x && okKey (key x)) && prevB (fun a b => Op.bytesLess (key a) (key b)) pre x) pre xs
  | [], pre => rfl
  | x :: xs, pre => by
    have ih := rising_allPre key p xs (pre ++ [x])
    simp only [List.getLast?_concat, Option.map_some] at ih
    have hp : prevB (fun a b => Op.bytesLess (key a) (key b)) pre x = (match pre.getLast?.map key with | none => true | some q => Op.bytesLess q (key x)) := by
      unfold prevB
      cases pre.getLast? <;> rfl
    simp only [List.map_cons, rising, allPre, List.all_cons]
    rw [← ih, hp]
    cases okKey (key x) <;> cases p x <;> cases hg : pre.getLast? <;> simp [Bool.and_comm, Bool.and_left_comm]
theorem app_snoc {α : Type} {f : α → List AV} {xs : List α} {k : Nat} {x : α} {L : List (List AV)} (hx : xs[k]? = some x) (hL : L = [f x]) : (xs.take k).map f ++ L = (xs.take (k + 1)).map f := by
  rw [hL, take_get hx, List.map_append]; rfl
theorem full_take {α : Type} {f : α → List AV} {xs : List α} {k : Nat} (h : ¬ (k : Int) < xs.length) : (xs.take k).map f = xs.map f := by rw [List.take_of_length_le (by omega)]
theorem c_Equal_String (xs ys : List (List UInt8)) (hl : xs.length ≤ 9223372036854775807) : PC Tryz.prog false 212 [.sl (xs.map strC), .sl (ys.map strC)] (.bool (decide (xs = ys))) [] := by
  refine pc_at Tryz.func212 rfl (by kernel_rfl) 26 [.tmp 4] rfl rfl ?_
  repeat' (conv => whnf); first
 | (refine nameB_dec (fun h => ?_) (fun h => ?_) <;> try simp only [lensB] at h)
 | (refine nameB_cases (fun h => ?_) (fun h => ?_) <;> try simp only [nmL, lensB] at h)
 | refine splitB_true ?_
 | refine splitB_false ?_
 | refine draw_text (by kernel_rfl) (by kernel_rfl) (by kernel_rfl) ?_
 | ((refine Loop_at [0, 1, 12] [] (Nat) (fun k => xs.take k = ys.take k ∧ k ≤ xs.length) (fun k => [(13, .int .i64 (k : Nat))]) (fun k => []) (fun k => xs.length - k) 0 ⟨by first | (simp_all <;> fail) | rfl | fail, trivial⟩ trivial (by (try dsimp only); first | trivial | (refine ⟨?_, by omega⟩; simp <;> fail) | (simp <;> fail) | fail) ?_; (conv => whnf); refine side_and (side_of (by first | exact fun k => rfl | exact fun k => by simp [headOk, closedE, closedO, closedL, AV.closed, hcap.closed, hasId, AObj.box, BK.ofB])) ?_; rintro k hT; try dsimp only at hT))
 | (refine Again_of (k + 1) ⟨by first | rfl | exact i64_next (by omega) | (simp_all <;> fail) | fail, trivial⟩ trivial (by first | (and_intros <;> first | rfl | trivial) | fail) (by first | (and_intros <;> first | rfl | trivial) | fail) rfl rfl rfl (by (try dsimp only); first | (exact ⟨take_next hT.1 hx hy (by first | assumption | (cases x; cases y; simp_all)), by omega⟩) | fail) (show _ < _ by (try dsimp only); omega))
 | (refine ix_map2 hx (by omega) (by (try simp only [List.length_take]); omega) (fun y hy => ?_); try simp only [Int.toNat_natCast] at hy)
 | (refine ix_map (by omega) (by (try simp only [List.length_take]); omega) (fun x hx => ?_); try simp only [Int.toNat_natCast] at hx)
 | refine side_and (side_of (by first | exact Nat.le_of_ble_eq_true rfl | exact rfl | omega | fail)) ?_
 | refine LoadK_of rfl rfl ?_
 | fail
  all_goals
    conv => whnf
    refine OutA_plain rfl rfl ?_
    first
    | exact bool_no (len_ne (by omega))
    | exact bool_no (get_ne hx hy (by first | assumption | (intro e; subst e; simp_all)))
    | exact bool_yes (take_all_eq hT.1 (by omega) (by omega))
theorem c_Equal_Write (xs ys : List WriteT) (hl : xs.length ≤ 9223372036854775807) : PC Tryz.prog false 213 [.sl (xs.map WriteT.cells), .sl (ys.map WriteT.cells)] (.bool (decide (xs = ys))) [] := by
  refine pc_at Tryz.func213 rfl (by kernel_rfl) 26 [.tmp 4] rfl rfl ?_
  repeat' (conv => whnf); first
 | (refine nameB_dec (fun h => ?_) (fun h => ?_) <;> try simp only [lensB] at h)
 | (refine nameB_cases (fun h => ?_) (fun h => ?_) <;> try simp only [nmL, lensB] at h)
 | refine splitB_true ?_
 | refine splitB_false ?_
 | refine draw_text (by kernel_rfl) (by kernel_rfl) (by kernel_rfl) ?_
 | ((refine Loop_at [0, 1, 12] [] (Nat) (fun k => xs.take k = ys.take k ∧ k ≤ xs.length) (fun k => [(13, .int .i64 (k : Nat))]) (fun k => []) (fun k => xs.length - k) 0 ⟨by first | (simp_all <;> fail) | rfl | fail, trivial⟩ trivial (by (try dsimp only); first | trivial | (refine ⟨?_, by omega⟩; simp <;> fail) | (simp <;> fail) | fail) ?_; (conv => whnf); refine side_and (side_of (by first | exact fun k => rfl | exact fun k => by simp [headOk, closedE, closedO, closedL, AV.closed, hcap.closed, hasId, AObj.box, BK.ofB])) ?_; rintro k hT; try dsimp only at hT))
 | (refine Again_of (k + 1) ⟨by first | rfl | exact i64_next (by omega) | (simp_all <;> fail) | fail, trivial⟩ trivial (by first | (and_intros <;> first | rfl | trivial) | fail) (by first | (and_intros <;> first | rfl | trivial) | fail) rfl rfl rfl (by (try dsimp only); first | (exact ⟨take_next hT.1 hx hy (by first | assumption | (cases x; cases y; simp_all)), by omega⟩) | fail) (show _ < _ by (try dsimp only); omega))
 | (refine ix_map2 hx (by omega) (by (try simp only [List.length_take]); omega) (fun y hy => ?_); try simp only [Int.toNat_natCast] at hy)
 | (refine ix_map (by omega) (by (try simp only [List.length_take]); omega) (fun x hx => ?_); try simp only [Int.toNat_natCast] at hx)
 | refine side_and (side_of (by first | exact Nat.le_of_ble_eq_true rfl | exact rfl | omega | fail)) ?_
 | refine side_and (side_of (show Go.Ab.structOk _ _ = true by kernel_rfl)) ?_
 | refine LoadK_of rfl rfl ?_
 | fail
  all_goals
    conv => whnf
    refine OutA_plain rfl rfl ?_
    first
    | exact bool_no (len_ne (by omega))
    | exact bool_no (get_ne hx hy (by first | assumption | (intro e; subst e; simp_all)))
    | exact bool_yes (take_all_eq hT.1 (by omega) (by omega))
theorem c_impl_SameRec (x y : RecT) (hok : x.ok) : PC Tryz.prog false 195 [.agg x.cells, .agg y.cells] (.bool (decide (x = y))) [] := by
  refine pc_at Tryz.func195 rfl (by kernel_rfl) 52 [.tmp 4] rfl rfl ?_
  repeat' (conv => whnf); first
 | refine nameB_self (b := x.Yes) ?_
 | refine nameB_self (b := y.Yes) ?_
 | (refine nameB_dec (fun h => ?_) (fun h => ?_) <;> try simp only [lensB] at h)
 | refine splitB_true ?_
 | refine splitB_false ?_
 | refine Call0 (c_Equal_String x.Reads y.Reads hok.2.2.2.2.1.1) rfl rfl ?_
 | refine Call0 (c_Equal_Write x.Writes y.Writes hok.2.2.2.2.2.1.1) rfl rfl ?_
 | refine side_and (side_of (by first | exact Nat.le_of_ble_eq_true rfl | exact rfl | omega | fail)) ?_
 | fail
  all_goals
    conv => whnf
    refine OutA_plain rfl rfl ?_
    first | exact bool_yes (RecT.same (by assumption) (by assumption) (by assumption) (by assumption) (by assumption) (by assumption) (by assumption)) | exact bool_no (by intro e; subst e; simp_all)
theorem c_IndexFunc_Write (xs : List WriteT) (f : Nat) (caps : List AV) (q : WriteT → Bool) (hl : xs.length ≤ 9223372036854775807) (hcap : Caps caps) (hq : ∀ x ∈ xs, PC Tryz.prog false f (.agg x.cells :: caps) (.bool (q x)) []) : PC Tryz.prog false 217 [.sl (xs.map WriteT.cells), .fn f caps] (.int .i64 (idxF q 0 xs)) [] := by
  refine pc_at Tryz.func217 rfl (by kernel_rfl) 19 [.tmp 4] rfl rfl ?_
  repeat' (conv => whnf); first
 | (refine nameB_dec (fun h => ?_) (fun h => ?_) <;> try simp only [lensB] at h)
 | (refine nameB_cases (fun h => ?_) (fun h => ?_) <;> try simp only [nmL, lensB] at h)
 | refine splitB_true ?_
 | refine splitB_false ?_
 | ((refine Loop_at [0, 1, 7] [] (Nat) (fun k => idxF q k (xs.drop k) = idxF q 0 xs ∧ k ≤ xs.length) (fun k => [(8, .int .i64 (k : Nat))]) (fun k => []) (fun k => xs.length - k) 0 ⟨by first | (simp_all <;> fail) | rfl | fail, trivial⟩ trivial (by (try dsimp only); first | trivial | (refine ⟨?_, by omega⟩; simp <;> fail) | (simp <;> fail) | fail) ?_; (conv => whnf); refine side_and (side_of (by first | exact fun k => rfl | exact fun k => by simp [headOk, closedE, closedO, closedL, AV.closed, hcap.closed, hasId, AObj.box, BK.ofB])) ?_; rintro k hT; try dsimp only at hT))
 | (refine Again_of (k + 1) ⟨by first | rfl | exact i64_next (by omega) | (simp_all <;> fail) | fail, trivial⟩ trivial (by first | (and_intros <;> first | rfl | trivial) | fail) (by first | (and_intros <;> first | rfl | trivial) | fail) rfl rfl rfl (by (try dsimp only); (refine ⟨?_, by omega⟩; first | (rw [← hT.1, drop_get hx]; simp_all [idxF, List.all_cons, List.any_cons] <;> fail) | (have hg := drop_get hx; simp_all [idxF, List.all_cons, List.any_cons] <;> fail) | fail)) (show _ < _ by (try dsimp only); omega))
 | refine Call0 (hq x (List.mem_of_getElem? hx)) (congrArg (List.cons _) (hcap.same _)) (hcap.known _) ?_
 | (refine ix_map (by omega) (by (try simp only [List.length_take]); omega) (fun x hx => ?_); try simp only [Int.toNat_natCast] at hx)
 | refine side_and (side_of (by first | exact Nat.le_of_ble_eq_true rfl | exact rfl | omega | fail)) ?_
 | fail
  all_goals
    conv => whnf
    refine OutA_plain rfl rfl ?_
    first
    | (simp_all [idxF, named, AV.sub, AV.sub.subL]; done)
    | (rw [← hT.1, drop_get hx]; simp_all [idxF, List.all_cons, List.any_cons, named, AV.sub, AV.sub.subL]; done)
    | (have hg := drop_get hx; simp_all [idxF, List.all_cons, List.any_cons, named, AV.sub, AV.sub.subL]; done)
    | (rw [List.drop_eq_nil_of_le (by omega)] at hT; simp_all [idxF, named, AV.sub, AV.sub.subL]; done)
theorem c_ContainsFunc_Write (xs : List WriteT) (f : Nat) (caps : List AV) (q : WriteT → Bool) (hl : xs.length ≤ 9223372036854775807) (hcap : Caps caps) (hq : ∀ x ∈ xs, PC Tryz.prog false f (.agg x.cells :: caps) (.bool (q x)) []) : PC Tryz.prog false 209 [.sl (xs.map WriteT.cells), .fn f caps] (.bool (xs.any q)) [] := by
  refine pc_at Tryz.func209 rfl (by kernel_rfl) 9 [.tmp 4] rfl rfl ?_
  repeat' (conv => whnf); first
 | (refine nameB_dec (fun h => ?_) (fun h => ?_) <;> try simp only [lensB] at h)
 | refine Call0 (c_IndexFunc_Write xs f caps q hl hcap hq) (congrArg (fun l => [AV.sl _, AV.fn f l]) (hcap.same1 _)) ((Bool.and_true _).trans (hcap.known1 _)) ?_
 | fail
  all_goals
    conv => whnf
    refine OutA_plain rfl rfl ?_
    first
    | (simp_all [idxF_pos, named, AV.sub, AV.sub.subL]; done)
    | (rw [← hT.1, drop_get hx]; simp_all [idxF_pos, List.all_cons, List.any_cons, named, AV.sub, AV.sub.subL]; done)
    | (have hg := drop_get hx; simp_all [idxF_pos, List.all_cons, List.any_cons, named, AV.sub, AV.sub.subL]; done)
    | (rw [List.drop_eq_nil_of_le (by omega)] at hT; simp_all [idxF_pos, named, AV.sub, AV.sub.subL]; done)
def wrAt (pre : List WriteT) (w : WriteT) : Bool := (okStored w.Val w.Gone && okKey w.Key) && prevB (fun a b => Op.bytesLess a.Key b.Key) pre w
def okWrites (ws : List WriteT) : Bool := allPre wrAt [] ws && decide ((ws.length : Int) ≤ 24)
theorem any_notN {α : Type} {p : α → Bool} : ∀ {xs : List α}, xs.any (fun x => !p x) = !xs.all p
  | [] => rfl
  | x :: xs => by rw [List.any_cons, List.all_cons, any_notN, Bool.not_and]
theorem okWrites_rising (ws : List WriteT) : okWrites ws = (decide ((ws.length : Int) ≤ 24) && (rising none (ws.map WriteT.Key) && !ws.any fun w => !okStored w.Val w.Gone)) := by
  have := rising_allPre WriteT.Key (fun w => okStored w.Val w.Gone) ws []
  rw [any_notN, Bool.not_not]
  unfold okWrites
  rw [Bool.and_comm]
  exact congrArg _ this.symm
theorem okS_wkeys {ws : List WriteT} (h : okL WriteT.ok ws) : okL okS (ws.map WriteT.Key) := ⟨by rw [List.length_map]; exact h.1, fun k hk => by obtain ⟨c, hc, rfl⟩ := List.mem_map.1 hk; exact (h.2 c hc).1⟩
theorem keysWrites {ws : List WriteT} : ws.map (fun c => strC c.Key) = (ws.map WriteT.Key).map strC := by rw [List.map_map]; rfl
theorem c_impl_writeKeys (ws : List WriteT) (hw : ws.length ≤ 1048576) : PC Tryz.prog false 208 [.sl (ws.map WriteT.cells)] (.own 0) [⟨false, 9, 1, (ws.map WriteT.Key).map strC⟩] := by
  refine pc_at Tryz.func208 rfl (by kernel_rfl) 20 [.tmp 2] rfl rfl ?_
  repeat' (conv => whnf); first
 | refine side_and (side_of (one_lenC rfl rfl)) ?_
 | refine side_and (side_of (by first | (and_intros <;> first | exact Nat.le_of_ble_eq_true rfl | rfl | (intro e; exact absurd (AV.own.inj e) (by decide)) | (intro e; exact AV.noConfusion e)) | fail)) ?_
 | refine side_and (side_of (app_boundC (L := (ws.take k).map fun c => strC c.Key) rfl (by (try simp only [List.length_map, List.length_append, List.length_take, List.length_set, List.length_drop]); omega) (Nat.le_of_ble_eq_true rfl))) ?_
 | (refine nameB_dec (fun h => ?_) (fun h => ?_) <;> try simp only [lensB] at h)
 | refine splitB_true ?_
 | refine splitB_false ?_
 | ((refine Loop_nil 3 4096 9 1 rfl rfl (by decide) ?_; refine Loop_at [7, 8] [] (Nat) (fun k => k ≤ ws.length) (fun k => [(9, .int .i64 (k : Nat)), (3, .own 4096)]) (fun k => [(4096, ⟨false, 9, 1, (ws.take k).map fun c => strC c.Key⟩)]) (fun k => ws.length - k) 0 ⟨by first | (simp_all <;> fail) | rfl | fail, by first | rfl | (simp_all <;> fail) | fail, trivial⟩ ⟨by first | rfl | exact congrArg (fun e => some (AObj.mk false _ _ e)) (app_snoc hx rfl) | fail | fail, trivial⟩ (by (try dsimp only); first | (exact Nat.zero_le _) | fail) ?_; (conv => whnf); refine side_and (side_of (by first | exact fun k => rfl | exact fun k => by simp [headOk, closedE, closedO, closedL, AV.closed, hcap.closed, hasId, AObj.box, BK.ofB])) ?_; rintro k hT; try dsimp only at hT))
 | (refine Again_of (k + 1) ⟨by first | rfl | exact i64_next (by omega) | (simp_all <;> fail) | fail, by first | rfl | (simp_all <;> fail) | fail, trivial⟩ ⟨by first | rfl | exact congrArg (fun e => some (AObj.mk false _ _ e)) (app_snoc hx rfl) | fail | fail, trivial⟩ (by first | (and_intros <;> first | rfl | trivial) | fail) (by first | (and_intros <;> first | rfl | trivial) | fail) rfl rfl rfl (by (try dsimp only); first | ((show k + 1 ≤ _; omega)) | fail) (show _ < _ by (try dsimp only); omega))
 | (refine ix_map (by omega) (by (try simp only [List.length_take]); omega) (fun x hx => ?_); try simp only [Int.toNat_natCast] at hx)
 | fail
  all_goals
    conv => whnf
    refine OutA_ids rfl rfl rfl ⟨⟨_, _, _, rfl, congrArg (AObj.mk false _ _) ?_⟩, trivial⟩ rfl (.inr (flat_one (flat_map (fun _ => rfl) _)))
    exact ((full_take (f := fun c : WriteT => strC c.Key) (by assumption)).trans keysWrites).symm
theorem c_impl_GoodWrites_1 (x : WriteT) (hok : x.ok) : PC Tryz.prog false 210 [.agg x.cells] (.bool (!okStored x.Val x.Gone)) [] := by
  refine pc_at Tryz.func210 rfl (by kernel_rfl) 9 [.tmp 2] rfl rfl ?_
  repeat' (conv => whnf); first
 | refine nameB_self (b := x.Gone) ?_
 | refine nameB_true ?_
 | refine nameB_false ?_
 | (refine nameB_cases (fun h => ?_) (fun h => ?_) <;> try simp only [nmL, lensB] at h)
 | refine Call0 (c_impl_isStored x.Val x.Gone hok.2.1) rfl rfl ?_
 | refine side_and (side_of (by first | exact Nat.le_of_ble_eq_true rfl | exact rfl | omega | fail)) ?_
 | fail
  all_goals
    conv => whnf
    refine OutA_plain rfl rfl ?_
    first
    | rfl
    | (simp only [*, named, AV.sub, AV.sub.subL, Bool.and_true, Bool.and_false, Bool.true_and, Bool.false_and, Bool.or_true, Bool.or_false, Bool.true_or, Bool.false_or, Bool.not_true, Bool.not_false, if_true, if_false, decide_true, decide_false, Bool.false_eq_true, Bool.and_self]; done)
    | (simp_all [named, AV.sub, AV.sub.subL]; done)
    | (simp_all [named, AV.sub, AV.sub.subL] <;> (intros; omega))
    | (exfalso; omega)
theorem c_impl_GoodWrites (ws : List WriteT) (hok : okL WriteT.ok ws) (hw : ws.length ≤ 1048576) : PC Tryz.prog false 189 [.sl (ws.map WriteT.cells)] (.bool (okWrites ws)) [] := by
  rw [okWrites_rising]
  refine pc_at Tryz.func189 rfl (by kernel_rfl) 16 [.tmp 2] rfl rfl ?_
  repeat' (conv => whnf); first
 | refine nameB_true ?_
 | refine nameB_false ?_
 | (refine nameB_dec (fun h => ?_) (fun h => ?_) <;> try simp only [lensB] at h)
 | (refine nameB_cases (fun h => ?_) (fun h => ?_) <;> try simp only [nmL, lensB] at h)
 | refine splitB_true ?_
 | refine splitB_false ?_
 | refine CallF (c_impl_writeKeys ws hw) rfl rfl rfl (Nat.le_of_ble_eq_true rfl) ?_
 | refine Call0 (c_impl_areRising (ws.map WriteT.Key) (okS_wkeys hok)) rfl rfl ?_
 | refine Call0 (c_ContainsFunc_Write ws 210 [] (fun w => !okStored w.Val w.Gone) hok.1 ⟨fun _ => rfl, fun _ => rfl, fun _ => rfl, fun _ => rfl, fun _ => rfl⟩ (fun x hx => c_impl_GoodWrites_1 x (hok.2 x hx))) rfl rfl ?_
 | fail
  all_goals
    conv => whnf
    refine OutA_plain rfl rfl ?_
    first
    | rfl
    | (simp only [*, named, AV.sub, AV.sub.subL, Bool.and_true, Bool.and_false, Bool.true_and, Bool.false_and, Bool.or_true, Bool.or_false, Bool.true_or, Bool.false_or, Bool.not_true, Bool.not_false, if_true, if_false, decide_true, decide_false, Bool.false_eq_true, Bool.and_self]; done)
    | (simp_all [named, AV.sub, AV.sub.subL]; done)
    | (simp_all [named, AV.sub, AV.sub.subL] <;> (intros; omega))
    | (exfalso; omega)
theorem wrAt_yes {ws : List WriteT} {k : Nat} {w : WriteT} (h1 : okWr w.Key w.Val w.Gone = true) (h3 : prevB (fun a b : WriteT => Op.bytesLess a.Key b.Key) (ws.take k) w = true) : wrAt (ws.take k) w = true := by
  simp only [okWr, Bool.and_eq_true] at h1
  simp only [wrAt, h1.1, h1.2, h3, Bool.and_true]
theorem wrAt_no {pre : List WriteT} {w : WriteT} (h : okWr w.Key w.Val w.Gone = false ∨ prevB (fun a b : WriteT => Op.bytesLess a.Key b.Key) pre w = false) : wrAt pre w = false := by
  rcases h with h | h
  · simp only [okWr, Bool.and_eq_false_iff] at h
    rcases h with h | h <;> simp only [wrAt, h, Bool.false_and, Bool.and_false]
  · simp only [wrAt, h, Bool.false_and, Bool.and_false]
theorem c_spec_l3Writes (ws : List WriteT) (hok : okL WriteT.ok ws) : PC Tryz.prog false 181 [.sl (ws.map WriteT.cells)] (.bool (okWrites ws)) [] := by
  have hl := hok.1
  refine pc_at Tryz.func181 rfl (by kernel_rfl) 39 [.tmp 2] rfl rfl ?_
  repeat' (conv => whnf); first
 | refine ix_as (m := k - 1) (by simp only [i64_wrap_eq]; omega) (by omega) (fun y hy => ?_)
 | refine nameB_self (b := x.Gone) ?_
 | refine nameB_true ?_
 | refine nameB_false ?_
 | (refine nameB_dec (fun h => ?_) (fun h => ?_) <;> try simp only [lensB] at h)
 | (refine nameB_cases (fun h => ?_) (fun h => ?_) <;> try simp only [nmL, lensB] at h)
 | refine splitB_true ?_
 | refine splitB_false ?_
 | refine draw_text (by kernel_rfl) (by kernel_rfl) (by kernel_rfl) ?_
 | ((refine Loop_at [0, 5, 6] [] (Nat) (fun k => allPre wrAt (ws.take k) (ws.drop k) = allPre wrAt [] ws ∧ k ≤ ws.length) (fun k => [(7, .int .i64 (k : Nat))]) (fun k => []) (fun k => ws.length - k) 0 ⟨by first | (simp_all <;> fail) | rfl | fail, trivial⟩ trivial (by (try dsimp only); first | (exact ⟨rfl, by omega⟩) | fail) ?_; (conv => whnf); refine side_and (side_of (by first | exact fun k => rfl | exact fun k => by simp [headOk, closedE, closedO, closedL, AV.closed, hcap.closed, hasId, AObj.box, BK.ofB])) ?_; rintro k hT; try dsimp only at hT))
 | (refine Again_of (k + 1) ⟨by first | rfl | exact i64_next (by omega) | (simp_all <;> fail) | fail, trivial⟩ trivial (by first | (and_intros <;> first | rfl | trivial) | fail) (by first | (and_intros <;> first | rfl | trivial) | fail) rfl rfl rfl (by (try dsimp only); first | (first | exact ⟨allPre_go hT.1 hx (wrAt_yes (by assumption) (prevB_zero (by assumption))), by omega⟩ | exact ⟨allPre_go hT.1 hx (wrAt_yes (by assumption) ((prevB_pos (by assumption) hy).trans (by assumption))), by omega⟩) | fail) (show _ < _ by (try dsimp only); omega))
 | refine CallD0 (c_spec_l3Write x.Key x.Val x.Gone (hok.2 x (List.mem_of_getElem? hx)).1 (hok.2 x (List.mem_of_getElem? hx)).2.1) rfl rfl rfl ?_
 | (refine ix_map (by omega) (by (try simp only [List.length_take]); omega) (fun x hx => ?_); try simp only [Int.toNat_natCast] at hx)
 | refine side_and (side_of (by first | exact ⟨Nat.le_of_ble_eq_true rfl, rfl⟩ | fail)) ?_
 | refine side_and (side_of (by first | exact Nat.le_of_ble_eq_true rfl | exact rfl | omega | fail)) ?_
 | refine side_and (side_of (by first | (and_intros <;> first | rfl | omega | exact Nat.le_of_ble_eq_true rfl) | fail)) ?_
 | refine LoadK_of rfl rfl ?_
 | fail
  all_goals
    conv => whnf
    refine OutA_plain rfl rfl ?_
    first
    | (have hb := allPre_bad hT.1 hx (wrAt_no (.inl (by assumption))); simp only [okWrites, hb, Bool.false_and]; rfl)
    | (have hb := allPre_bad hT.1 hx (wrAt_no (.inr ((prevB_pos (by assumption) hy).trans (by assumption)))); simp only [okWrites, hb, Bool.false_and]; rfl)
    | (have hb := allPre_end hT.1 (by assumption); simp_all [okWrites, named, AV.sub]; done)
theorem c_spec_l4Keys (xs : List (List UInt8)) (hok : okL okS xs) : PC Tryz.prog false 180 [.sl (xs.map strC)] (.bool (rising none xs && decide ((xs.length : Int) ≤ 8))) [] := by
  have hl := hok.1
  refine pc_at Tryz.func180 rfl (by kernel_rfl) 32 [.tmp 2] rfl rfl ?_
  repeat' (conv => whnf); first
 | refine ix_as (m := k - 1) (by simp only [i64_wrap_eq]; omega) (by omega) (fun y hy => ?_)
 | refine nameB_true ?_
 | refine nameB_false ?_
 | (refine nameB_dec (fun h => ?_) (fun h => ?_) <;> try simp only [lensB] at h)
 | (refine nameB_cases (fun h => ?_) (fun h => ?_) <;> try simp only [nmL, lensB] at h)
 | refine splitB_true ?_
 | refine splitB_false ?_
 | ((refine Loop_at [0, 5, 6] [] (Nat) (fun k => rising (prevOf xs k) (xs.drop k) = rising none xs ∧ k ≤ xs.length) (fun k => [(7, .int .i64 (k : Nat))]) (fun k => []) (fun k => xs.length - k) 0 ⟨by first | (simp_all <;> fail) | rfl | fail, trivial⟩ trivial (by (try dsimp only); first | (exact ⟨rfl, by omega⟩) | fail) ?_; (conv => whnf); refine side_and (side_of (by first | exact fun k => rfl | exact fun k => by simp [headOk, closedE, closedO, closedL, AV.closed, hcap.closed, hasId, AObj.box, BK.ofB])) ?_; rintro k hT; try dsimp only at hT))
 | (refine Again_of (k + 1) ⟨by first | rfl | exact i64_next (by omega) | (simp_all <;> fail) | fail, trivial⟩ trivial (by first | (and_intros <;> first | rfl | trivial) | fail) (by first | (and_intros <;> first | rfl | trivial) | fail) rfl rfl rfl (by (try dsimp only); first | (first | exact ⟨rising_go1 hT.1 hx (by assumption) (by assumption), by omega⟩ | exact ⟨rising_go2 hT.1 hx (by assumption) (by assumption) hy (by assumption), by omega⟩) | fail) (show _ < _ by (try dsimp only); omega))
 | refine Call0 (c_spec_l3Key x (hok.2 x (List.mem_of_getElem? hx))) rfl rfl ?_
 | (refine ix_map (by omega) (by (try simp only [List.length_take]); omega) (fun x hx => ?_); try simp only [Int.toNat_natCast] at hx)
 | refine side_and (side_of (by first | exact Nat.le_of_ble_eq_true rfl | exact rfl | omega | fail)) ?_
 | fail
  all_goals
    conv => whnf
    refine OutA_plain rfl rfl ?_
    first
    | (have hb := rising_bad1 hT.1 hx (by assumption); simp [hb, named, AV.sub]; done)
    | (have hb := rising_bad2 hT.1 hx (by assumption) hy (by assumption); simp [hb, named, AV.sub]; done)
    | (have hb := rising_end hT.1 (by assumption); simp_all [named, AV.sub]; done)
def okRec (r : RecT) : Bool :=
  if r.Kind = 1 then inB 1 r.Txn 60 && okTime r.Time && inB 0 r.Lead 3 && decide ((r.Reads.length : Int) ≤ 8) && rising none r.Reads && decide ((r.Writes.length : Int) ≤ 8) && okWrites r.Writes && decide (0 < (r.Reads.length : Int) + (r.Writes.length : Int)) && !r.Yes
  else (decide (r.Lead = 0) && decide ((r.Reads.length : Int) = 0) && decide ((r.Writes.length : Int) = 0)) &&
    if r.Kind = 2 ∨ r.Kind = 3 then inB 1 r.Txn 60 && (if r.Yes = true then okTime r.Time else decide (r.Time = 0))
    else decide (r.Kind = 4) && decide (r.Txn = 0) && okTime r.Time && !r.Yes
theorem c_impl_isTxn (n : Int) : PC Tryz.prog false 186 [.int .i64 n] (.bool (inB 1 n 60)) [] := by
  refine pc_at Tryz.func186 rfl (by kernel_rfl) 5 [.tmp 2] rfl rfl ?_
  repeat' (conv => whnf); first
 | (refine nameB_cases (fun h => ?_) (fun h => ?_) <;> try simp only [nmL, lensB] at h)
 | refine Call0 (c_impl_within ..) rfl rfl ?_
 | fail
  all_goals
    conv => whnf
    refine OutA_plain rfl rfl ?_
    first
    | rfl
    | (simp only [*, named, AV.sub, AV.sub.subL, Bool.and_true, Bool.and_false, Bool.true_and, Bool.false_and, Bool.or_true, Bool.or_false, Bool.true_or, Bool.false_or, Bool.not_true, Bool.not_false, if_true, if_false, decide_true, decide_false, Bool.false_eq_true, Bool.and_self]; done)
    | (simp_all [named, AV.sub, AV.sub.subL]; done)
    | (simp_all [named, AV.sub, AV.sub.subL] <;> (intros; omega))
    | (exfalso; omega)
theorem c_impl_GoodRec (r : RecT) (hok : r.ok) (hw : r.Writes.length ≤ 1048576) (hr : r.Reads.length ≤ 1048576) : PC Tryz.prog false 149 [.agg r.cells] (.bool (okRec r)) [] := by
  have hs : IntKind.i64.wrap ((r.Reads.length : Int) + (r.Writes.length : Int)) = (r.Reads.length : Int) + (r.Writes.length : Int) := i64_wrap (by omega) (by omega)
  refine pc_at Tryz.func149 rfl (by kernel_rfl) 119 [.tmp 2] rfl rfl ?_
  repeat' (conv => whnf); first
 | (refine nameB_cases (b := r.Yes) (fun h => ?_) (fun h => ?_))
 | refine nameB_true ?_
 | refine nameB_false ?_
 | (refine nameB_dec (fun h => ?_) (fun h => ?_) <;> try simp only [lensB] at h)
 | (refine nameB_cases (fun h => ?_) (fun h => ?_) <;> try simp only [nmL, lensB] at h)
 | refine splitB_true ?_
 | refine splitB_false ?_
 | refine Call0 (c_impl_isTxn ..) rfl rfl ?_
 | refine Call0 (c_impl_isTime ..) rfl rfl ?_
 | refine Call0 (c_impl_within ..) rfl rfl ?_
 | refine Call0 (c_impl_areRising r.Reads hok.2.2.2.2.1) rfl rfl ?_
 | refine Call0 (c_impl_GoodWrites r.Writes hok.2.2.2.2.2.1 hw) rfl rfl ?_
 | refine side_and (side_of (by first | exact Nat.le_of_ble_eq_true rfl | exact rfl | omega | fail)) ?_
 | fail
  all_goals
    conv => whnf
    refine OutA_plain rfl rfl ?_
    first
    | rfl
    | (simp only [okRec, *, named, AV.sub, AV.sub.subL, Bool.and_true, Bool.and_false, Bool.true_and, Bool.false_and, Bool.or_true, Bool.or_false, Bool.true_or, Bool.false_or, Bool.not_true, Bool.not_false, if_true, if_false, decide_true, decide_false, Bool.false_eq_true, Bool.and_self]; done)
    | (simp_all [okRec, named, AV.sub, AV.sub.subL]; done)
    | (simp_all [okRec, named, AV.sub, AV.sub.subL] <;> (intros; omega))
    | (exfalso; omega)
theorem c_spec_l4Good (r : RecT) (hok : r.ok) (hw : r.Writes.length ≤ 1048576) (hr : r.Reads.length ≤ 1048576) : PC Tryz.prog false 145 [.agg r.cells] (.bool (okRec r)) [] := by
  have hs : IntKind.i64.wrap ((r.Reads.length : Int) + (r.Writes.length : Int)) = (r.Reads.length : Int) + (r.Writes.length : Int) := i64_wrap (by omega) (by omega)
  refine pc_at Tryz.func145 rfl (by kernel_rfl) 112 [.tmp 2] rfl rfl ?_
  repeat' (conv => whnf); first
 | (refine nameB_cases (b := r.Yes) (fun h => ?_) (fun h => ?_))
 | refine nameB_true ?_
 | refine nameB_false ?_
 | refine nameB_dyes (by assumption) ?_
 | refine nameB_dno (by assumption) ?_
 | (refine nameB_dec (fun h => ?_) (fun h => ?_) <;> try simp only [lensB] at h)
 | (refine nameB_cases (fun h => ?_) (fun h => ?_) <;> try simp only [nmL, lensB] at h)
 | refine splitB_true ?_
 | refine splitB_false ?_
 | refine Call0 (c_spec_l1In ..) rfl rfl ?_
 | refine Call0 (c_spec_l3Time ..) rfl rfl ?_
 | refine Call0 (c_spec_l4Keys r.Reads hok.2.2.2.2.1) rfl rfl ?_
 | refine Call0 (c_spec_l3Writes r.Writes hok.2.2.2.2.2.1) rfl rfl ?_
 | refine side_and (side_of (by first | exact Nat.le_of_ble_eq_true rfl | exact rfl | omega | fail)) ?_
 | fail
  all_goals
    conv => whnf
    refine OutA_plain rfl rfl ?_
    first
    | rfl
    | (simp_all [okRec, inB, named, AV.sub, AV.sub.subL]; done)
    | (simp_all [okRec, inB, named, AV.sub, AV.sub.subL] <;> (intros; first | omega | fail))
    | (have q : (rising none r.Reads && decide ((r.Reads.length : Int) ≤ 8)) = false := (by assumption); rw [Bool.and_eq_false_iff] at q; rcases q with q | q <;> (unfold okRec; rw [if_pos (by assumption)]; simp only [q, Bool.and_false, Bool.false_and]; rfl))
    | (have q : IntKind.i64.wrap ((r.Reads.length : Int) + (r.Writes.length : Int)) > 0 := (by assumption); have hz4 : 0 < (r.Reads.length : Int) + (r.Writes.length : Int) := hs ▸ q; clear hs q; by_cases hz5 : (r.Reads.length : Int) = 0 <;> by_cases hz6 : (r.Writes.length : Int) = 0 <;> first | (exfalso; omega) | (simp_all [okRec, inB, named, AV.sub]; done) | (simp_all [okRec, inB, named, AV.sub] <;> (intros; omega)))
    | (have q : ¬ (IntKind.i64.wrap ((r.Reads.length : Int) + (r.Writes.length : Int)) > 0) := (by assumption); have hz0 : (r.Reads.length : Int) + (r.Writes.length : Int) ≤ 0 := hs ▸ Int.not_lt.1 q; clear hs q; have hz1 : (r.Reads.length : Int) = 0 := (by omega); have hz2 : (r.Writes.length : Int) = 0 := (by omega); simp_all [okRec, named, AV.sub]; done)
theorem idxF_bound {α : Type} {q : α → Bool} {xs : List α} (h : ¬ idxF q 0 xs < 0) : (idxF q 0 xs).toNat < xs.length := by
  obtain ⟨x, h1, _⟩ := idxF_lt (xs := xs) (k := 0) (q := q) rfl (by omega)
  exact (List.getElem?_eq_some_iff.1 h1).1
theorem allR_go {α : Type} {q : α → Bool} {xs : List α} {k : Nat} {B : Bool} {x : α} (h : (xs.drop k).all q = B) (hx : xs[k]? = some x) (hq : q x = true) : (xs.drop (k + 1)).all q = B := by
  rw [drop_get hx, List.all_cons, hq, Bool.true_and] at h
  exact h
theorem allR_bad {α : Type} {q : α → Bool} {xs : List α} {k : Nat} {B : Bool} {x : α} (h : (xs.drop k).all q = B) (hx : xs[k]? = some x) (hq : q x = false) : B = false := by
  rw [drop_get hx, List.all_cons, hq, Bool.false_and] at h
  exact h.symm
theorem allR_end {α : Type} {q : α → Bool} {xs : List α} {k : Nat} {B : Bool} (h : (xs.drop k).all q = B) (hk : ¬ (k : Int) < xs.length) : B = true := by
  rw [List.drop_eq_nil_of_le (by omega)] at h
  exact h.symm
theorem inB_sp {a n b : Int} (h : inB a n b = true) : a ≤ n ∧ n ≤ b := by simpa only [inB, Bool.and_eq_true, decide_eq_true_eq] using h
def entAt (term : Int) (pre : List EntryT) (e : EntryT) : Bool := (inB 1 e.Term term && okRec e.Rec) && prevB (fun a b => decide (a.Term ≤ b.Term)) pre e
def okLog (l : List EntryT) (term : Int) : Bool := allPre (entAt term) [] l && decide ((l.length : Int) ≤ 60)
theorem entAt_yes {term : Int} {pre : List EntryT} {e : EntryT} (h1 : inB 1 e.Term term = true) (h2 : okRec e.Rec = true) (h3 : prevB (fun a b : EntryT => decide (a.Term ≤ b.Term)) pre e = true) : entAt term pre e = true := by simp only [entAt, h1, h2, h3, Bool.and_true]
theorem entAt_no {term : Int} {pre : List EntryT} {e : EntryT} (h : inB 1 e.Term term = false ∨ okRec e.Rec = false ∨ prevB (fun a b : EntryT => decide (a.Term ≤ b.Term)) pre e = false) : entAt term pre e = false := by
  rcases h with h | h | h <;> simp only [entAt, h, Bool.false_and, Bool.and_false]
theorem ent_len {e : EntryT} (h : e.w ≤ 1048576) : e.Rec.Writes.length ≤ 1048576 ∧ e.Rec.Reads.length ≤ 1048576 := by
  have h2 : e.w = wL List.length e.Rec.Reads + wL WriteT.w e.Rec.Writes := rfl
  have h3 := wL_len (w := List.length) (xs := e.Rec.Reads)
  have h4 := wL_len (w := WriteT.w) (xs := e.Rec.Writes)
  omega
theorem log_mem {l : List EntryT} {e : EntryT} {k : Nat} (hw : wL EntryT.w l ≤ 1048576) (h : l[k]? = some e) : e.w ≤ 1048576 := Nat.le_trans (wL_mem (List.mem_of_getElem? h)).2 hw
theorem c_impl_isLog (l : List EntryT) (term : Int) (hok : okL EntryT.ok l) (hw : wL EntryT.w l ≤ 1048576) : PC Tryz.prog false 101 [.sl (l.map EntryT.cells), .int .i64 term] (.bool (okLog l term)) [] := by
  have hl := hok.1
  refine pc_at Tryz.func101 rfl (by kernel_rfl) 44 [.tmp 4] rfl rfl ?_
  repeat' (conv => whnf); first
 | refine ix_as (m := k - 1) (by simp only [i64_wrap_eq]; omega) (by omega) (fun y hy => ?_)
 | (refine nameB_cases (b := okRec x.Rec) (fun h => ?_) (fun h => ?_))
 | refine nameB_true ?_
 | refine nameB_false ?_
 | (refine nameB_dec (fun h => ?_) (fun h => ?_) <;> try simp only [lensB] at h)
 | (refine nameB_cases (fun h => ?_) (fun h => ?_) <;> try simp only [nmL, lensB] at h)
 | refine splitB_true ?_
 | refine splitB_false ?_
 | refine draw_text (by kernel_rfl) (by kernel_rfl) (by kernel_rfl) ?_
 | ((refine Loop_at [0, 1, 7, 8] [] (Nat) (fun k => allPre (entAt term) (l.take k) (l.drop k) = allPre (entAt term) [] l ∧ k ≤ l.length) (fun k => [(9, .int .i64 (k : Nat))]) (fun k => []) (fun k => l.length - k) 0 ⟨by first | (simp_all <;> fail) | rfl | fail, trivial⟩ trivial (by (try dsimp only); first | (exact ⟨rfl, by omega⟩) | fail) ?_; (conv => whnf); refine side_and (side_of (by first | exact fun k => rfl | exact fun k => by simp [headOk, closedE, closedO, closedL, AV.closed, hcap.closed, hasId, AObj.box, BK.ofB])) ?_; rintro k hT; try dsimp only at hT))
 | (refine Again_of (k + 1) ⟨by first | rfl | exact i64_next (by omega) | (simp_all <;> fail) | fail, trivial⟩ trivial (by first | (and_intros <;> first | rfl | trivial) | fail) (by first | (and_intros <;> first | rfl | trivial) | fail) rfl rfl rfl (by (try dsimp only); first | (first | exact ⟨allPre_go hT.1 hx (entAt_yes (by assumption) (by assumption) (prevB_zero (by assumption))), by omega⟩ | exact ⟨allPre_go hT.1 hx (entAt_yes (by assumption) (by assumption) ((prevB_pos (by assumption) hy).trans (decide_eq_true (by omega)))), by omega⟩) | fail) (show _ < _ by (try dsimp only); omega))
 | refine CallD0 (c_impl_within ..) rfl rfl rfl ?_
 | refine CallD0 (c_impl_GoodRec x.Rec (hok.2 x (List.mem_of_getElem? hx)).2 (ent_len (log_mem hw hx)).1 (ent_len (log_mem hw hx)).2) rfl rfl rfl ?_
 | (refine ix_map (by omega) (by (try simp only [List.length_take]); omega) (fun x hx => ?_); try simp only [Int.toNat_natCast] at hx)
 | refine side_and (side_of (by first | exact ⟨Nat.le_of_ble_eq_true rfl, rfl⟩ | fail)) ?_
 | refine side_and (side_of (by first | exact Nat.le_of_ble_eq_true rfl | exact rfl | omega | fail)) ?_
 | refine side_and (side_of (by first | (and_intros <;> first | rfl | omega | exact Nat.le_of_ble_eq_true rfl) | fail)) ?_
 | refine LoadK_of rfl rfl ?_
 | fail
  all_goals
    conv => whnf
    refine OutA_plain rfl rfl ?_
    first
    | (have hb := allPre_bad hT.1 hx (entAt_no (.inl (by assumption))); simp only [okLog, hb, Bool.false_and]; rfl)
    | (have hb := allPre_bad hT.1 hx (entAt_no (.inr (.inl (by assumption)))); simp only [okLog, hb, Bool.false_and]; rfl)
    | (have hb := allPre_bad hT.1 hx (entAt_no (.inr (.inr ((prevB_pos (by assumption) hy).trans (decide_eq_false (by omega)))))); simp only [okLog, hb, Bool.false_and]; rfl)
    | (have hb := allPre_end hT.1 (by assumption); simp only [okLog, hb, Bool.true_and, *]; rfl)
def lastT (l : List EntryT) : Int := match l.getLast? with | none => 1 | some e => e.Term
theorem lastT_next {l : List EntryT} {k : Nat} {x : EntryT} (hx : l[k]? = some x) : lastT (l.take (k + 1)) = x.Term := by
  unfold lastT
  rw [take_get hx, List.getLast?_append, List.getLast?_singleton]
  rfl
theorem entAt_last {term : Int} {pre : List EntryT} {e : EntryT} (h : 1 ≤ lastT pre) : entAt term pre e = (inB (lastT pre) e.Term term && okRec e.Rec) := by
  unfold entAt prevB
  unfold lastT at *
  cases hg : pre.getLast? with
  | none => simp only [hg, Bool.and_true]
  | some y =>
    simp only [hg] at h ⊢
    unfold inB
    cases okRec e.Rec <;> by_cases h1 : 1 ≤ e.Term <;> by_cases h2 : y.Term ≤ e.Term <;> simp [h1, h2] <;> omega
theorem entAt_lyes {term : Int} {pre : List EntryT} {e : EntryT} (h : 1 ≤ lastT pre) (h1 : inB (lastT pre) e.Term term = true) (h2 : okRec e.Rec = true) : entAt term pre e = true := by rw [entAt_last h, h1, h2]; rfl
theorem entAt_lno {term : Int} {pre : List EntryT} {e : EntryT} (h : 1 ≤ lastT pre) (h1 : inB (lastT pre) e.Term term = false ∨ okRec e.Rec = false) : entAt term pre e = false := by
  rw [entAt_last h]
  rcases h1 with h1 | h1 <;> simp [h1]
def okRep (term : Int) (r : ReplicaT) : Bool := okLog r.Log term && inB 0 r.Sure (r.Log.length : Int)
theorem c_spec_l9GoodRep (r : ReplicaT) (term : Int) (hok : r.ok) (hw : r.w ≤ 1048576) : PC Tryz.prog false 50 [.agg r.cells, .int .i64 term] (.bool (okRep term r)) [] := by
  have hl := hok.2.1.1
  have hw2 : wL EntryT.w r.Log ≤ 1048576 := hw
  refine pc_at Tryz.func50 rfl (by kernel_rfl) 53 [.tmp 4] rfl rfl ?_
  repeat' (conv => whnf); first
 | (refine nameB_cases (b := okRec x.Rec) (fun h => ?_) (fun h => ?_))
 | refine nameB_true ?_
 | refine nameB_false ?_
 | (refine nameB_dec (fun h => ?_) (fun h => ?_) <;> try simp only [lensB] at h)
 | (refine nameB_cases (fun h => ?_) (fun h => ?_) <;> try simp only [nmL, lensB] at h)
 | refine splitB_true ?_
 | refine splitB_false ?_
 | ((refine Loop_at [1, 2] [0] (Nat) (fun k => allPre (entAt term) (r.Log.take k) (r.Log.drop k) = allPre (entAt term) [] r.Log ∧ k ≤ r.Log.length ∧ 1 ≤ lastT (r.Log.take k)) (fun k => [(5, .int .i64 (lastT (r.Log.take k))), (6, .int .i64 (k : Nat))]) (fun k => []) (fun k => r.Log.length - k) 0 ⟨by first | first | rfl | exact congrArg (AV.int .i64) (lastT_next hx).symm | rfl | fail, by first | first | rfl | exact congrArg (AV.int .i64) (lastT_next hx).symm | rfl | fail, trivial⟩ trivial (by (try dsimp only); first | (exact ⟨rfl, by omega, Int.le_refl _⟩) | fail) ?_; (conv => whnf); refine side_and (side_of (by first | exact fun k => rfl | exact fun k => by simp [headOk, closedE, closedO, closedL, AV.closed, hcap.closed, hasId, AObj.box, BK.ofB])) ?_; rintro k hT; try dsimp only at hT))
 | (refine Again_of (k + 1) ⟨by first | first | rfl | exact congrArg (AV.int .i64) (lastT_next hx).symm | rfl | fail, by first | rfl | exact i64_next (by omega) | first | rfl | exact congrArg (AV.int .i64) (lastT_next hx).symm | fail, trivial⟩ trivial (by first | (and_intros <;> first | rfl | trivial) | fail) (by first | (and_intros <;> first | rfl | trivial) | fail) rfl rfl rfl (by (try dsimp only); first | (exact ⟨allPre_go hT.1 hx (entAt_lyes hT.2.2 (by assumption) (by assumption)), by omega, by rw [lastT_next hx]; have h9 := inB_sp (by assumption); omega⟩) | fail) (show _ < _ by (try dsimp only); omega))
 | refine Call0 (c_spec_l1In ..) rfl rfl ?_
 | refine Call0 (c_spec_l4Good x.Rec (hok.2.1.2 x (List.mem_of_getElem? hx)).2 (ent_len (log_mem hw2 hx)).1 (ent_len (log_mem hw2 hx)).2) rfl rfl ?_
 | refine CallI (nid := 4096 * 7 + 16 * 17) (f := 97) Tryz.func97 rfl (by kernel_rfl) 1000000 [1, 2, 6, 37] 5 [.tmp 2] rfl rfl ?_
 | refine RetI_of rfl ?_
 | refine ix_map_at hx ?_
 | (refine ix_map (by omega) (by (try simp only [List.length_take]); omega) (fun x hx => ?_); try simp only [Int.toNat_natCast] at hx)
 | refine side_and (side_of (by first | exact Nat.le_of_ble_eq_true rfl | exact rfl | omega | fail)) ?_
 | fail
  all_goals
    conv => whnf
    refine OutA_plain rfl rfl ?_
    first
    | (have hb := allPre_bad hT.1 hx (entAt_lno hT.2.2 (.inl (by assumption))); simp only [okRep, okLog, hb, Bool.false_and]; rfl)
    | (have hb := allPre_bad hT.1 hx (entAt_lno hT.2.2 (.inr (by assumption))); simp only [okRep, okLog, hb, Bool.false_and]; rfl)
    | (have hb := allPre_end hT.1 (by assumption); have h9 : (r.Log.length : Int) ≤ 60 := (by omega); simp only [okRep, okLog, hb, h9, Bool.true_and, decide_true, *]; rfl)
    | (have h9 : ¬ (r.Log.length : Int) ≤ 60 := (by omega); simp only [okRep, okLog, h9, Bool.false_and, Bool.and_false, decide_false]; rfl)
    | (simp only [okRep, Bool.and_false, *]; rfl)
theorem c_IndexFunc_Replica (xs : List ReplicaT) (f : Nat) (caps : List AV) (q : ReplicaT → Bool) (hl : xs.length ≤ 9223372036854775807) (hcap : Caps caps) (hq : ∀ x ∈ xs, PC Tryz.prog false f (.agg x.cells :: caps) (.bool (q x)) []) : PC Tryz.prog false 155 [.sl (xs.map ReplicaT.cells), .fn f caps] (.int .i64 (idxF q 0 xs)) [] := by
  refine pc_at Tryz.func155 rfl (by kernel_rfl) 19 [.tmp 4] rfl rfl ?_
  repeat' (conv => whnf); first
 | (refine nameB_dec (fun h => ?_) (fun h => ?_) <;> try simp only [lensB] at h)
 | (refine nameB_cases (fun h => ?_) (fun h => ?_) <;> try simp only [nmL, lensB] at h)
 | refine splitB_true ?_
 | refine splitB_false ?_
 | ((refine Loop_at [0, 1, 7] [] (Nat) (fun k => idxF q k (xs.drop k) = idxF q 0 xs ∧ k ≤ xs.length) (fun k => [(8, .int .i64 (k : Nat))]) (fun k => []) (fun k => xs.length - k) 0 ⟨by first | (simp_all <;> fail) | rfl | fail, trivial⟩ trivial (by (try dsimp only); first | trivial | (refine ⟨?_, by omega⟩; simp <;> fail) | (simp <;> fail) | fail) ?_; (conv => whnf); refine side_and (side_of (by first | exact fun k => rfl | exact fun k => by simp [headOk, closedE, closedO, closedL, AV.closed, hcap.closed, hasId, AObj.box, BK.ofB])) ?_; rintro k hT; try dsimp only at hT))
 | (refine Again_of (k + 1) ⟨by first | rfl | exact i64_next (by omega) | (simp_all <;> fail) | fail, trivial⟩ trivial (by first | (and_intros <;> first | rfl | trivial) | fail) (by first | (and_intros <;> first | rfl | trivial) | fail) rfl rfl rfl (by (try dsimp only); (refine ⟨?_, by omega⟩; first | (rw [← hT.1, drop_get hx]; simp_all [idxF, List.all_cons, List.any_cons] <;> fail) | (have hg := drop_get hx; simp_all [idxF, List.all_cons, List.any_cons] <;> fail) | fail)) (show _ < _ by (try dsimp only); omega))
 | refine Call0 (hq x (List.mem_of_getElem? hx)) (congrArg (List.cons _) (hcap.same _)) (hcap.known _) ?_
 | (refine ix_map (by omega) (by (try simp only [List.length_take]); omega) (fun x hx => ?_); try simp only [Int.toNat_natCast] at hx)
 | refine side_and (side_of (by first | exact Nat.le_of_ble_eq_true rfl | exact rfl | omega | fail)) ?_
 | fail
  all_goals
    conv => whnf
    refine OutA_plain rfl rfl ?_
    first
    | (simp_all [idxF, named, AV.sub, AV.sub.subL]; done)
    | (rw [← hT.1, drop_get hx]; simp_all [idxF, List.all_cons, List.any_cons, named, AV.sub, AV.sub.subL]; done)
    | (have hg := drop_get hx; simp_all [idxF, List.all_cons, List.any_cons, named, AV.sub, AV.sub.subL]; done)
    | (rw [List.drop_eq_nil_of_le (by omega)] at hT; simp_all [idxF, named, AV.sub, AV.sub.subL]; done)
theorem c_ContainsFunc_Replica (xs : List ReplicaT) (f : Nat) (caps : List AV) (q : ReplicaT → Bool) (hl : xs.length ≤ 9223372036854775807) (hcap : Caps caps) (hq : ∀ x ∈ xs, PC Tryz.prog false f (.agg x.cells :: caps) (.bool (q x)) []) : PC Tryz.prog false 113 [.sl (xs.map ReplicaT.cells), .fn f caps] (.bool (xs.any q)) [] := by
  refine pc_at Tryz.func113 rfl (by kernel_rfl) 9 [.tmp 4] rfl rfl ?_
  repeat' (conv => whnf); first
 | (refine nameB_dec (fun h => ?_) (fun h => ?_) <;> try simp only [lensB] at h)
 | refine Call0 (c_IndexFunc_Replica xs f caps q hl hcap hq) (congrArg (fun l => [AV.sl _, AV.fn f l]) (hcap.same1 _)) ((Bool.and_true _).trans (hcap.known1 _)) ?_
 | fail
  all_goals
    conv => whnf
    refine OutA_plain rfl rfl ?_
    first
    | (simp_all [idxF_pos, named, AV.sub, AV.sub.subL]; done)
    | (rw [← hT.1, drop_get hx]; simp_all [idxF_pos, List.all_cons, List.any_cons, named, AV.sub, AV.sub.subL]; done)
    | (have hg := drop_get hx; simp_all [idxF_pos, List.all_cons, List.any_cons, named, AV.sub, AV.sub.subL]; done)
    | (rw [List.drop_eq_nil_of_le (by omega)] at hT; simp_all [idxF_pos, named, AV.sub, AV.sub.subL]; done)
def upAt (g : GroupT) (n : Int) : Bool := match g.Reps[n.toNat]? with | some r => r.Up | none => false
theorem upAt_of {g : GroupT} {n : Int} {y : ReplicaT} (h : g.Reps[n.toNat]? = some y) : upAt g n = y.Up := by unfold upAt; rw [h]
def isRep (g : GroupT) (n : Int) : Bool := inB 0 n ((g.Reps.length : Int) - 1)
theorem isRep_lt {g : GroupT} {n : Int} (h : isRep g n = true) : 0 ≤ n ∧ n.toNat < g.Reps.length := by
  have := inB_sp h
  omega
def okMany (n : Int) : Bool := decide (n = 3) || decide (n = 5)
def okLead (g : GroupT) : Bool := decide (g.Lead = -1) || (isRep g g.Lead && upAt g g.Lead)
def okGroup (g : GroupT) : Bool := (okMany (g.Reps.length : Int) && inB 0 g.Term 200 && okLead g) && g.Reps.all (okRep g.Term)
def GB (g : GroupT) : Prop := g.Reps.length ≤ 1048576 ∧ ∀ r ∈ g.Reps, r.w ≤ 1048576
theorem gb_of {g : GroupT} (hw : g.w ≤ 1048576) : GB g := ⟨Nat.le_trans wL_len hw, fun r h => Nat.le_trans (wL_mem h).2 hw⟩
theorem rep_w {g : GroupT} {r : ReplicaT} (hw : GB g) (h : r ∈ g.Reps) : r.w ≤ 1048576 := hw.2 r h
theorem reps_len {g : GroupT} (hw : GB g) : g.Reps.length ≤ 1048576 := hw.1
theorem c_impl_isMany (n : Int) : PC Tryz.prog false 110 [.int .i64 n] (.bool (okMany n)) [] := by
  refine pc_at Tryz.func110 rfl (by kernel_rfl) 9 [.tmp 2] rfl rfl ?_
  repeat' (conv => whnf); first
 | (refine nameB_dec (fun h => ?_) (fun h => ?_) <;> try simp only [lensB] at h)
 | refine splitB_true ?_
 | refine splitB_false ?_
 | fail
  all_goals
    conv => whnf
    refine OutA_plain rfl rfl ?_
    first
    | rfl
    | (simp_all [okMany, named, AV.sub, AV.sub.subL]; done)
theorem c_impl_Group_isRep (g : GroupT) (n : Int) (hw : GB g) : PC Tryz.prog false 112 [.agg g.cells, .int .i64 n] (.bool (isRep g n)) [] := by
  have hl := reps_len hw
  have hs : IntKind.i64.wrap ((g.Reps.length : Int) - 1) = (g.Reps.length : Int) - 1 := i64_wrap (by omega) (by omega)
  refine pc_at Tryz.func112 rfl (by kernel_rfl) 11 [.tmp 4] rfl rfl ?_
  repeat' (conv => whnf); first
 | (refine nameB_cases (fun h => ?_) (fun h => ?_) <;> try simp only [nmL, lensB] at h)
 | refine Call0 (c_impl_within ..) rfl rfl ?_
 | refine side_and (side_of (by first | exact Nat.le_of_ble_eq_true rfl | exact rfl | omega | fail)) ?_
 | fail
  all_goals
    conv => whnf
    refine OutA_plain rfl rfl ?_
    first
    | (have hq : inB 0 n (IntKind.i64.wrap ((g.Reps.length : Int) - 1)) = true := (by assumption); rw [hs] at hq; simp only [isRep, hq]; rfl)
    | (have hq : inB 0 n (IntKind.i64.wrap ((g.Reps.length : Int) - 1)) = false := (by assumption); rw [hs] at hq; simp only [isRep, hq]; rfl)
theorem c_impl_GoodGroup_1 (g : GroupT) (r : ReplicaT) (hok : r.ok) (hw : r.w ≤ 1048576) : PC Tryz.prog false 114 [.agg r.cells, .rp g.cells] (.bool (!okRep g.Term r)) [] := by
  have hl := hok.2.1.1
  refine pc_at Tryz.func114 rfl (by kernel_rfl) 19 [.tmp 3] rfl rfl ?_
  repeat' (conv => whnf); first
 | (refine nameB_cases (b := okLog r.Log g.Term) (fun h => ?_) (fun h => ?_))
 | refine nameB_true ?_
 | refine nameB_false ?_
 | (refine nameB_cases (fun h => ?_) (fun h => ?_) <;> try simp only [nmL, lensB] at h)
 | refine splitB_true ?_
 | refine splitB_false ?_
 | refine Call0 (c_impl_isLog r.Log g.Term hok.2.1 hw) rfl rfl ?_
 | refine Call0 (c_impl_within ..) rfl rfl ?_
 | refine side_and (side_of (by first | exact Nat.le_of_ble_eq_true rfl | exact rfl | omega | fail)) ?_
 | fail
  all_goals
    conv => whnf
    refine OutA_plain rfl rfl ?_
    first
    | (simp_all [okRep, named, AV.sub, AV.sub.subL]; done)
theorem c_impl_GoodGroup (g : GroupT) (hok : g.ok) (hw : GB g) : PC Tryz.prog false 65 [.agg g.cells] (.bool (okGroup g)) [] := by
  have hl := reps_len hw
  refine pc_at Tryz.func65 rfl (by kernel_rfl) 40 [.tmp 2] rfl rfl ?_
  repeat' (conv => whnf); first
 | refine ix_as (f := ReplicaT.cells) (m := g.Lead.toNat) (by have h9 := isRep_lt (g := g) (by assumption); omega) (by have h9 := isRep_lt (g := g) (by assumption); omega) (fun y hy => ?_)
 | refine nameB_self (b := y.Up) ?_
 | (refine nameB_cases (b := isRep g g.Lead) (fun h => ?_) (fun h => ?_))
 | (refine nameB_cases (b := g.Reps.any _) (fun h => ?_) (fun h => ?_))
 | refine nameB_true ?_
 | refine nameB_false ?_
 | (refine nameB_cases (fun h => ?_) (fun h => ?_) <;> try simp only [nmL, lensB] at h)
 | refine splitB_true ?_
 | refine splitB_false ?_
 | refine Call0 (c_impl_isMany ..) rfl rfl ?_
 | refine Call0 (c_impl_within ..) rfl rfl ?_
 | refine Call0 (c_impl_Group_isRep g g.Lead hw) rfl rfl ?_
 | refine Call0 (c_ContainsFunc_Replica g.Reps 114 [.rp g.cells] (fun r => !okRep g.Term r) (by omega) ⟨fun _ => rfl, fun _ => rfl, fun _ => rfl, fun _ => rfl, fun _ => rfl⟩ (fun r hr => c_impl_GoodGroup_1 g r (hok.1.2 r hr) (rep_w hw hr))) rfl rfl ?_
 | refine side_and (side_of (by first | exact Nat.le_of_ble_eq_true rfl | exact rfl | omega | fail)) ?_
 | fail
  all_goals
    (try have hyu := upAt_of hy)
    conv => whnf
    refine OutA_plain rfl rfl ?_
    first
    | (simp_all [okGroup, okLead, named, AV.sub, AV.sub.subL]; done)
    | (have hb : g.Reps.all (okRep g.Term) = !(g.Reps.any fun r => !okRep g.Term r) := (by rw [any_notN, Bool.not_not]); simp_all [okGroup, okLead, named, AV.sub, AV.sub.subL]; done)
theorem c_spec_GoodGroup (g : GroupT) (hok : g.ok) (hw : GB g) : PC Tryz.prog false 68 [.agg g.cells] (.bool (okGroup g)) [] := by
  have hl := reps_len hw
  have hs : IntKind.i64.wrap ((g.Reps.length : Int) - 1) = (g.Reps.length : Int) - 1 := i64_wrap (by omega) (by omega)
  refine pc_at Tryz.func68 rfl (by kernel_rfl) 58 [.tmp 2] rfl rfl ?_
  repeat' (conv => whnf); first
 | refine ix_as (f := ReplicaT.cells) (m := g.Lead.toNat) (by omega) (by have h9 := inB_sp (a := -1) (n := g.Lead) (by assumption); omega) (fun y hy => ?_)
 | refine nameB_self (b := y.Up) ?_
 | (refine nameB_cases (b := okRep g.Term x) (fun h => ?_) (fun h => ?_))
 | refine nameB_true ?_
 | refine nameB_false ?_
 | (refine nameB_dec (fun h => ?_) (fun h => ?_) <;> try simp only [lensB] at h)
 | (refine nameB_cases (fun h => ?_) (fun h => ?_) <;> try simp only [nmL, lensB] at h)
 | refine splitB_true ?_
 | refine splitB_false ?_
 | refine draw_text (by kernel_rfl) (by kernel_rfl) (by kernel_rfl) ?_
 | ((refine Loop_at [1] [0] (Nat) (fun k => ((g.Reps.drop k).all (okRep g.Term)) = (g.Reps.all (okRep g.Term)) ∧ k ≤ g.Reps.length) (fun k => [(3, .int .i64 (k : Nat))]) (fun k => []) (fun k => g.Reps.length - k) 0 ⟨by first | (simp_all <;> fail) | rfl | fail, trivial⟩ trivial (by (try dsimp only); first | (exact ⟨rfl, by omega⟩) | fail) ?_; (conv => whnf); refine side_and (side_of (by first | exact fun k => rfl | exact fun k => by simp [headOk, closedE, closedO, closedL, AV.closed, hcap.closed, hasId, AObj.box, BK.ofB])) ?_; rintro k hT; try dsimp only at hT))
 | (refine Again_of (k + 1) ⟨by first | rfl | exact i64_next (by omega) | (simp_all <;> fail) | fail, trivial⟩ trivial (by first | (and_intros <;> first | rfl | trivial) | fail) (by first | (and_intros <;> first | rfl | trivial) | fail) rfl rfl rfl (by (try dsimp only); first | (exact ⟨allR_go hT.1 hx (by assumption), by omega⟩) | fail) (show _ < _ by (try dsimp only); omega))
 | refine Call0 (c_spec_l1In ..) rfl rfl ?_
 | refine CallD0 (c_spec_l9GoodRep x g.Term (hok.1.2 x (List.mem_of_getElem? hx)) (rep_w hw (List.mem_of_getElem? hx))) rfl rfl rfl ?_
 | (refine ix_map (by omega) (by (try simp only [List.length_take]); omega) (fun x hx => ?_); try simp only [Int.toNat_natCast] at hx)
 | refine side_and (side_of (by first | exact Nat.le_of_ble_eq_true rfl | exact rfl | omega | fail)) ?_
 | refine LoadK_of rfl rfl ?_
 | fail
  all_goals
    (try have hyu := upAt_of hy)
    conv => whnf
    refine OutA_plain rfl rfl ?_
    first
    | (have hb := allR_bad hT.1 hx (by assumption); simp only [okGroup, hb, Bool.and_false]; rfl)
    | (have hb := allR_end hT.1 (by assumption); have h9 := inB_sp (a := -1) (n := g.Lead) (by assumption); by_cases h8 : g.Lead = -1 <;> simp_all [okGroup, okLead, isRep, okMany, inB, named, AV.sub, AV.sub.subL] <;> omega)
    | (simp_all [okGroup, okLead, isRep, okMany, inB, named, AV.sub, AV.sub.subL]; done)
    | (simp_all [okGroup, okLead, isRep, okMany, inB, named, AV.sub, AV.sub.subL] <;> omega)
theorem c_Clone_str2 (xs : List (List UInt8)) (hl : xs.length ≤ 1048576) : PC Tryz.prog false 190 [.sl (xs.map strC)] (.own 0) [⟨false, 9, 1, xs.map strC⟩] := by
  refine pc_at Tryz.func190 rfl (by kernel_rfl) 8 [.tmp 2] rfl rfl ?_
  repeat' (conv => whnf); first
 | refine splitB_true ?_
 | refine splitB_false ?_
 | refine side_and (side_of (by first | exact ⟨Nat.le_of_ble_eq_true rfl, rfl⟩ | fail)) ?_
 | refine side_and (side_of (by first | exact Nat.le_of_ble_eq_true rfl | exact rfl | omega | fail)) ?_
 | refine side_and (side_of (by first | (and_intros <;> first | rfl | omega | exact Nat.le_of_ble_eq_true rfl) | fail)) ?_
 | refine side_and (side_of (by first | (and_intros <;> first | exact Nat.le_of_ble_eq_true rfl | rfl | omega | (simp only [lensB, lensC]; omega) | exact bytes_ok (Nat.le_of_ble_eq_true rfl) (by omega) (by simp only [lensB, lensC]; omega) | exact bytes_okN (Nat.le_of_ble_eq_true rfl) (by simp only [lensB, lensC]; omega)) | fail)) ?_
 | refine nilB_intro (fun h => ?_) ?_
 | refine side_and (side_of (map_len (fun _ => rfl))) ?_
 | refine side_and (side_of (map_one (fun _ => rfl) _)) ?_
 | fail
  all_goals
    conv => whnf
    first
    | exact OutA_ids rfl rfl rfl ⟨⟨_, _, _, rfl, rfl⟩, trivial⟩ rfl (.inr (flat_one (flat_map (fun _ => rfl) _)))
    | exact OutA_nil 2 1 9 1 rfl rfl (by decide) (OutA_ids rfl rfl rfl ⟨⟨_, _, _, rfl, congrArg (AObj.mk false _ _) (map_nil_of (by assumption))⟩, trivial⟩ rfl (.inr (flat_one (flat_map (fun _ => rfl) _))))
theorem c_Clone_Write2 (xs : List WriteT) (hl : xs.length ≤ 1048576) : PC Tryz.prog false 191 [.sl (xs.map WriteT.cells)] (.own 0) [⟨false, 154, 3, xs.map WriteT.cells⟩] := by
  refine pc_at Tryz.func191 rfl (by kernel_rfl) 8 [.tmp 2] rfl rfl ?_
  repeat' (conv => whnf); first
 | refine splitB_true ?_
 | refine splitB_false ?_
 | refine side_and (side_of (by first | exact ⟨Nat.le_of_ble_eq_true rfl, rfl⟩ | fail)) ?_
 | refine side_and (side_of (by first | exact Nat.le_of_ble_eq_true rfl | exact rfl | omega | fail)) ?_
 | refine side_and (side_of (by first | (and_intros <;> first | rfl | omega | exact Nat.le_of_ble_eq_true rfl) | fail)) ?_
 | refine side_and (side_of (by first | (and_intros <;> first | exact Nat.le_of_ble_eq_true rfl | rfl | omega | (simp only [lensB, lensC]; omega) | exact bytes_ok (Nat.le_of_ble_eq_true rfl) (by omega) (by simp only [lensB, lensC]; omega) | exact bytes_okN (Nat.le_of_ble_eq_true rfl) (by simp only [lensB, lensC]; omega)) | fail)) ?_
 | refine nilB_intro (fun h => ?_) ?_
 | refine side_and (side_of (map_len (fun _ => rfl))) ?_
 | refine side_and (side_of (map_one (fun _ => rfl) _)) ?_
 | fail
  all_goals
    conv => whnf
    first
    | exact OutA_ids rfl rfl rfl ⟨⟨_, _, _, rfl, rfl⟩, trivial⟩ rfl (.inr (flat_one (flat_map (fun _ => rfl) _)))
    | exact OutA_nil 2 1 154 3 rfl rfl (by decide) (OutA_ids rfl rfl rfl ⟨⟨_, _, _, rfl, congrArg (AObj.mk false _ _) (map_nil_of (by assumption))⟩, trivial⟩ rfl (.inr (flat_one (flat_map (fun _ => rfl) _))))
theorem c_impl_copyRec (x : RecT) (hr : x.Reads.length ≤ 1048576) (hw : x.Writes.length ≤ 1048576) : PC Tryz.prog false 150 [.agg x.cells] (.agg [.int .i64 x.Kind, .int .i64 x.Txn, .int .i64 x.Time, .int .i64 x.Lead, .own 0, .own 1, .bool x.Yes]) [⟨.deep [.leaf], 9, 1, (x.Reads.map strC)⟩, ⟨.deep WriteT.shp, 154, 3, (x.Writes.map WriteT.cells)⟩] := by
  refine pc_at Tryz.func150 rfl (by kernel_rfl) 12 [.cell 2 47] rfl rfl ?_
  repeat' (conv => whnf); first
 | refine CallF (c_Clone_str2 x.Reads hr) rfl rfl rfl (Nat.le_of_ble_eq_true rfl) ?_
 | refine CallF (c_Clone_Write2 x.Writes hw) rfl rfl rfl (Nat.le_of_ble_eq_true rfl) ?_
 | refine side_and (side_of (by first | exact ⟨Nat.le_of_ble_eq_true rfl, rfl⟩ | fail)) ?_
 | refine side_and (side_of (by first | exact Nat.le_of_ble_eq_true rfl | exact rfl | omega | fail)) ?_
 | refine side_and (side_of (by first | (and_intros <;> first | rfl | omega | exact Nat.le_of_ble_eq_true rfl) | fail)) ?_
 | fail
  all_goals
    conv => whnf
    refine OutA_prom [(4128, [.leaf]), (8224, WriteT.shp)] ⟨⟨_, _, _, rfl, prom_map (fun _ => rfl)⟩, ⟨_, _, _, rfl, prom_map (fun _ => rfl)⟩, trivial⟩ ?_
    conv => whnf
    exact OutA_deep rfl rfl rfl ⟨⟨rfl, rfl⟩, ⟨⟨rfl, rfl⟩, trivial⟩⟩ rfl
theorem c_impl_copyEntries (xs : List EntryT) (hw : wL EntryT.w xs ≤ 1048576) : PC Tryz.prog false 104 [.sl (xs.map EntryT.cells)] (.own 0) [⟨.deep EntryT.shp, 124, 8, xs.map EntryT.cells⟩] := by
  have hl : xs.length ≤ 1048576 := Nat.le_trans wL_len hw
  refine pc_at Tryz.func104 rfl (by kernel_rfl) 27 [.tmp 2] rfl rfl ?_
  repeat' (conv => whnf); first
 | (show Go.Ab.drawA _ _ _ _ _; refine draw_tail 9 (by kernel_rfl) (by kernel_rfl) (by kernel_rfl) ?_)
 | (refine nameB_dec (fun h => ?_) (fun h => ?_) <;> try simp only [lensB] at h)
 | refine splitB_true ?_
 | refine splitB_false ?_
 | ((refine Loop_prom [(4128, EntryT.shp)] ⟨⟨_, _, _, rfl, by first | exact prom_nil | exact prom_rep rfl | exact prom_map (fun _ => rfl) | exact prom_one rfl⟩, trivial⟩ ?_; refine Loop_at [3, 9, 10] [] (Nat) (fun k => True ∧ k ≤ xs.length) (fun k => [(11, .int .i64 (k : Nat))]) (fun k => [(4128, ⟨.deep EntryT.shp, 124, 8, (xs.take k).map EntryT.cells ++ List.replicate (xs.length - k) [.int .i64 0, .int .i64 0, .int .i64 0, .int .i64 0, .int .i64 0, .nil, .nil, .bool false]⟩)]) (fun k => xs.length - k) 0 ⟨by first | (simp_all <;> fail) | rfl | fail, trivial⟩ ⟨by first | rfl | exact congrArg (fun e => some (AObj.mk _ _ _ e)) (set_rep hx) | exact congrArg (fun e => some (AObj.mk _ _ _ e)) start_rep | fail | fail, trivial⟩ (by (try dsimp only); first | trivial | (refine ⟨?_, by omega⟩; simp <;> fail) | (simp <;> fail) | fail) ?_; (conv => whnf); refine side_and (side_of (by first | exact fun k => rfl | exact fun k => by simp [headOk, closedE, closedO, closedL, AV.closed, hcap.closed, hasId, AObj.box, BK.ofB])) ?_; rintro k hT; try dsimp only at hT))
 | (refine Again_of (k + 1) ⟨by first | rfl | exact i64_next (by omega) | (simp_all <;> fail) | fail, trivial⟩ ⟨by first | rfl | exact congrArg (fun e => some (AObj.mk _ _ _ e)) (set_rep hx) | exact congrArg (fun e => some (AObj.mk _ _ _ e)) start_rep | fail | fail, trivial⟩ (by first | (and_intros <;> first | rfl | trivial) | fail) (by first | (and_intros <;> first | rfl | trivial) | fail) rfl rfl rfl (by (try dsimp only); first | (exact ⟨trivial, by omega⟩) | fail) (show _ < _ by (try dsimp only); omega))
 | refine CallDF (c_impl_copyRec x.Rec (ent_len (log_mem hw hx)).2 (ent_len (log_mem hw hx)).1) rfl rfl ⟨rfl, rfl⟩ ?_
 | (refine ix_map (by omega) (by (try simp only [List.length_take]); omega) (fun x hx => ?_); try simp only [Int.toNat_natCast] at hx)
 | refine side_and (side_of (by first | exact ⟨Nat.le_of_ble_eq_true rfl, rfl⟩ | fail)) ?_
 | refine side_and (side_of (by first | exact Nat.le_of_ble_eq_true rfl | exact rfl | omega | fail)) ?_
 | refine side_and (side_of (by first | (and_intros <;> first | rfl | omega | exact Nat.le_of_ble_eq_true rfl) | fail)) ?_
 | refine side_and (side_of (by first | (and_intros <;> first | exact Nat.le_of_ble_eq_true rfl | rfl | omega | (simp only [lensB, lensC]; omega) | exact bytes_ok (Nat.le_of_ble_eq_true rfl) (by omega) (by simp only [lensB, lensC]; omega) | exact bytes_okN (Nat.le_of_ble_eq_true rfl) (by simp only [lensB, lensC]; omega)) | fail)) ?_
 | refine StoreD_of rfl rfl rfl ?_
 | refine ix_rep (by simp; omega) (by omega) ?_
 | fail
  all_goals
    conv => whnf
    exact OutA_deep rfl rfl rfl ⟨⟨congrArg (fun e => some (AObj.mk _ _ _ e)) (full_rep (by omega)), rfl⟩, trivial⟩ rfl
theorem deep_app {o es L : List (List AV)} {b : Nat} (h1 : o = L) (h2 : es.length = 1) (hl : L.length ≤ 1048576) (hb : b ≤ 4096) : o.length + es.length ≤ 70368744177664 ∧ (o.length + es.length) * b ≤ 140737488355328 := by
  rw [h1, h2]
  exact ⟨by omega, Nat.le_trans (Nat.mul_le_mul (Nat.succ_le_succ hl) hb) (Nat.le_of_ble_eq_true rfl)⟩
theorem rep_log {g : GroupT} {x : ReplicaT} {k : Nat} (hw : GB g) (h : g.Reps[k]? = some x) : wL EntryT.w x.Log ≤ 1048576 := rep_w hw (List.mem_of_getElem? h)
theorem c_impl_copyGroup (g : GroupT) (hw : GB g) : PC Tryz.prog false 59 [.agg g.cells] (.agg [.own 0, .int .i64 g.Term, .int .i64 g.Lead]) [⟨.deep ReplicaT.shp, 90, 3, g.Reps.map ReplicaT.cells⟩] := by
  have hl := reps_len hw
  refine pc_at Tryz.func59 rfl (by kernel_rfl) 33 [.cell 2 38] rfl rfl ?_
  repeat' (conv => whnf); first
 | (show Go.Ab.drawA _ _ _ _ _; refine draw_exp (.take 0 (.take 2 (.take 4 (.take 7 (.fork 1 (.fork 3 (.fork 5 (.fork 6 (.fork 8 (.fork 9 (.fork 10 (.fork 11 (.take 12 (.fork 13 (.done) (.stop))) (.stop)) (.stop)) (.stop)) (.stop)) (.fork 8 (.fork 6 (.fork 9 (.fork 10 (.fork 11 (.take 12 (.fork 13 (.done) (.stop))) (.stop)) (.stop)) (.stop)) (.stop)) (.stop))) (.fork 8 (.fork 5 (.fork 6 (.fork 9 (.fork 10 (.fork 11 (.take 12 (.fork 13 (.done) (.stop))) (.stop)) (.stop)) (.stop)) (.stop)) (.stop)) (.stop))) (.fork 5 (.fork 3 (.fork 6 (.fork 8 (.fork 9 (.fork 10 (.fork 11 (.take 12 (.fork 13 (.done) (.stop))) (.stop)) (.stop)) (.stop)) (.stop)) (.fork 8 (.fork 6 (.fork 9 (.fork 10 (.fork 11 (.take 12 (.fork 13 (.done) (.stop))) (.stop)) (.stop)) (.stop)) (.stop)) (.stop))) (.fork 6 (.fork 3 (.fork 8 (.fork 9 (.fork 10 (.fork 11 (.take 12 (.fork 13 (.done) (.stop))) (.stop)) (.stop)) (.stop)) (.stop)) (.fork 8 (.fork 3 (.fork 9 (.fork 10 (.fork 11 (.take 12 (.fork 13 (.done) (.stop))) (.stop)) (.stop)) (.stop)) (.stop)) (.stop))) (.fork 8 (.fork 3 (.fork 6 (.fork 9 (.fork 10 (.fork 11 (.take 12 (.fork 13 (.done) (.stop))) (.stop)) (.stop)) (.stop)) (.stop)) (.fork 6 (.fork 3 (.fork 9 (.fork 10 (.fork 11 (.take 12 (.fork 13 (.done) (.stop))) (.stop)) (.stop)) (.stop)) (.stop)) (.stop))) (.stop)))) (.fork 8 (.fork 3 (.fork 5 (.fork 6 (.fork 9 (.fork 10 (.fork 11 (.take 12 (.fork 13 (.done) (.stop))) (.stop)) (.stop)) (.stop)) (.stop)) (.stop)) (.fork 5 (.fork 3 (.fork 6 (.fork 9 (.fork 10 (.fork 11 (.take 12 (.fork 13 (.done) (.stop))) (.stop)) (.stop)) (.stop)) (.stop)) (.fork 6 (.fork 3 (.fork 9 (.fork 10 (.fork 11 (.take 12 (.fork 13 (.done) (.stop))) (.stop)) (.stop)) (.stop)) (.stop)) (.stop))) (.stop))) (.stop)))) (.fork 3 (.fork 1 (.fork 5 (.fork 6 (.fork 8 (.fork 9 (.fork 10 (.fork 11 (.take 12 (.fork 13 (.done) (.stop))) (.stop)) (.stop)) (.stop)) (.stop)) (.fork 8 (.fork 6 (.fork 9 (.fork 10 (.fork 11 (.take 12 (.fork 13 (.done) (.stop))) (.stop)) (.stop)) (.stop)) (.stop)) (.stop))) (.fork 8 (.fork 5 (.fork 6 (.fork 9 (.fork 10 (.fork 11 (.take 12 (.fork 13 (.done) (.stop))) (.stop)) (.stop)) (.stop)) (.stop)) (.stop)) (.stop))) (.fork 5 (.fork 1 (.fork 6 (.fork 8 (.fork 9 (.fork 10 (.fork 11 (.take 12 (.fork 13 (.done) (.stop))) (.stop)) (.stop)) (.stop)) (.stop)) (.fork 8 (.fork 6 (.fork 9 (.fork 10 (.fork 11 (.take 12 (.fork 13 (.done) (.stop))) (.stop)) (.stop)) (.stop)) (.stop)) (.stop))) (.fork 6 (.fork 1 (.fork 8 (.fork 9 (.fork 10 (.fork 11 (.take 12 (.fork 13 (.done) (.stop))) (.stop)) (.stop)) (.stop)) (.stop)) (.fork 8 (.fork 1 (.fork 9 (.fork 10 (.fork 11 (.take 12 (.fork 13 (.done) (.stop))) (.stop)) (.stop)) (.stop)) (.fork 9 (.fork 1 (.fork 10 (.fork 11 (.take 12 (.fork 13 (.done) (.stop))) (.stop)) (.stop)) (.fork 10 (.fork 1 (.fork 11 (.take 12 (.fork 13 (.done) (.stop))) (.stop)) (.stop)) (.stop))) (.stop))) (.stop))) (.fork 8 (.fork 1 (.fork 6 (.fork 9 (.fork 10 (.fork 11 (.take 12 (.fork 13 (.done) (.stop))) (.stop)) (.stop)) (.stop)) (.stop)) (.fork 6 (.fork 1 (.fork 9 (.fork 10 (.fork 11 (.take 12 (.fork 13 (.done) (.stop))) (.stop)) (.stop)) (.stop)) (.fork 9 (.fork 1 (.fork 10 (.fork 11 (.take 12 (.fork 13 (.done) (.stop))) (.stop)) (.stop)) (.fork 10 (.fork 1 (.fork 11 (.take 12 (.fork 13 (.done) (.stop))) (.stop)) (.stop)) (.stop))) (.stop))) (.stop))) (.stop)))) (.fork 8 (.fork 1 (.fork 5 (.fork 6 (.fork 9 (.fork 10 (.fork 11 (.take 12 (.fork 13 (.done) (.stop))) (.stop)) (.stop)) (.stop)) (.stop)) (.stop)) (.fork 5 (.fork 1 (.fork 6 (.fork 9 (.fork 10 (.fork 11 (.take 12 (.fork 13 (.done) (.stop))) (.stop)) (.stop)) (.stop)) (.stop)) (.fork 6 (.fork 1 (.fork 9 (.fork 10 (.fork 11 (.take 12 (.fork 13 (.done) (.stop))) (.stop)) (.stop)) (.stop)) (.fork 9 (.fork 1 (.fork 10 (.fork 11 (.take 12 (.fork 13 (.done) (.stop))) (.stop)) (.stop)) (.fork 10 (.fork 1 (.fork 11 (.take 12 (.fork 13 (.done) (.stop))) (.stop)) (.stop)) (.stop))) (.stop))) (.stop))) (.stop))) (.stop)))) (.fork 5 (.fork 1 (.fork 3 (.fork 6 (.fork 8 (.fork 9 (.fork 10 (.fork 11 (.take 12 (.fork 13 (.done) (.stop))) (.stop)) (.stop)) (.stop)) (.stop)) (.fork 8 (.fork 6 (.fork 9 (.fork 10 (.fork 11 (.take 12 (.fork 13 (.done) (.stop))) (.stop)) (.stop)) (.stop)) (.stop)) (.stop))) (.fork 6 (.fork 3 (.fork 8 (.fork 9 (.fork 10 (.fork 11 (.take 12 (.fork 13 (.done) (.stop))) (.stop)) (.stop)) (.stop)) (.stop)) (.fork 8 (.fork 3 (.fork 9 (.fork 10 (.fork 11 (.take 12 (.fork 13 (.done) (.stop))) (.stop)) (.stop)) (.stop)) (.stop)) (.stop))) (.fork 8 (.fork 3 (.fork 6 (.fork 9 (.fork 10 (.fork 11 (.take 12 (.fork 13 (.done) (.stop))) (.stop)) (.stop)) (.stop)) (.stop)) (.fork 6 (.fork 3 (.fork 9 (.fork 10 (.fork 11 (.take 12 (.fork 13 (.done) (.stop))) (.stop)) (.stop)) (.stop)) (.stop)) (.stop))) (.stop)))) (.fork 3 (.fork 1 (.fork 6 (.fork 8 (.fork 9 (.fork 10 (.fork 11 (.take 12 (.fork 13 (.done) (.stop))) (.stop)) (.stop)) (.stop)) (.stop)) (.fork 8 (.fork 6 (.fork 9 (.fork 10 (.fork 11 (.take 12 (.fork 13 (.done) (.stop))) (.stop)) (.stop)) (.stop)) (.stop)) (.stop))) (.fork 6 (.fork 1 (.fork 8 (.fork 9 (.fork 10 (.fork 11 (.take 12 (.fork 13 (.done) (.stop))) (.stop)) (.stop)) (.stop)) (.stop)) (.fork 8 (.fork 1 (.fork 9 (.fork 10 (.fork 11 (.take 12 (.fork 13 (.done) (.stop))) (.stop)) (.stop)) (.stop)) (.fork 9 (.fork 1 (.fork 10 (.fork 11 (.take 12 (.fork 13 (.done) (.stop))) (.stop)) (.stop)) (.fork 10 (.fork 1 (.fork 11 (.take 12 (.fork 13 (.done) (.stop))) (.stop)) (.stop)) (.stop))) (.stop))) (.stop))) (.fork 8 (.fork 1 (.fork 6 (.fork 9 (.fork 10 (.fork 11 (.take 12 (.fork 13 (.done) (.stop))) (.stop)) (.stop)) (.stop)) (.stop)) (.fork 6 (.fork 1 (.fork 9 (.fork 10 (.fork 11 (.take 12 (.fork 13 (.done) (.stop))) (.stop)) (.stop)) (.stop)) (.fork 9 (.fork 1 (.fork 10 (.fork 11 (.take 12 (.fork 13 (.done) (.stop))) (.stop)) (.stop)) (.fork 10 (.fork 1 (.fork 11 (.take 12 (.fork 13 (.done) (.stop))) (.stop)) (.stop)) (.stop))) (.stop))) (.stop))) (.stop)))) (.fork 6 (.fork 1 (.fork 3 (.fork 8 (.fork 9 (.fork 10 (.fork 11 (.take 12 (.fork 13 (.done) (.stop))) (.stop)) (.stop)) (.stop)) (.stop)) (.fork 8 (.fork 3 (.fork 9 (.fork 10 (.fork 11 (.take 12 (.fork 13 (.done) (.stop))) (.stop)) (.stop)) (.stop)) (.stop)) (.stop))) (.fork 3 (.fork 1 (.fork 8 (.fork 9 (.fork 10 (.fork 11 (.take 12 (.fork 13 (.done) (.stop))) (.stop)) (.stop)) (.stop)) (.stop)) (.fork 8 (.fork 1 (.fork 9 (.fork 10 (.fork 11 (.take 12 (.fork 13 (.done) (.stop))) (.stop)) (.stop)) (.stop)) (.fork 9 (.fork 1 (.fork 10 (.fork 11 (.take 12 (.fork 13 (.done) (.stop))) (.stop)) (.stop)) (.fork 10 (.fork 1 (.fork 11 (.take 12 (.fork 13 (.done) (.stop))) (.stop)) (.stop)) (.stop))) (.stop))) (.stop))) (.fork 8 (.fork 1 (.fork 3 (.fork 9 (.fork 10 (.fork 11 (.take 12 (.fork 13 (.done) (.stop))) (.stop)) (.stop)) (.stop)) (.stop)) (.fork 3 (.fork 1 (.fork 9 (.fork 10 (.fork 11 (.take 12 (.fork 13 (.done) (.stop))) (.stop)) (.stop)) (.stop)) (.fork 9 (.fork 1 (.fork 10 (.fork 11 (.take 12 (.fork 13 (.done) (.stop))) (.stop)) (.stop)) (.fork 10 (.fork 1 (.fork 11 (.take 12 (.fork 13 (.done) (.stop))) (.stop)) (.stop)) (.stop))) (.stop))) (.stop))) (.stop)))) (.fork 8 (.fork 1 (.fork 3 (.fork 6 (.fork 9 (.fork 10 (.fork 11 (.take 12 (.fork 13 (.done) (.stop))) (.stop)) (.stop)) (.stop)) (.stop)) (.fork 6 (.fork 3 (.fork 9 (.fork 10 (.fork 11 (.take 12 (.fork 13 (.done) (.stop))) (.stop)) (.stop)) (.stop)) (.stop)) (.stop))) (.fork 3 (.fork 1 (.fork 6 (.fork 9 (.fork 10 (.fork 11 (.take 12 (.fork 13 (.done) (.stop))) (.stop)) (.stop)) (.stop)) (.stop)) (.fork 6 (.fork 1 (.fork 9 (.fork 10 (.fork 11 (.take 12 (.fork 13 (.done) (.stop))) (.stop)) (.stop)) (.stop)) (.fork 9 (.fork 1 (.fork 10 (.fork 11 (.take 12 (.fork 13 (.done) (.stop))) (.stop)) (.stop)) (.fork 10 (.fork 1 (.fork 11 (.take 12 (.fork 13 (.done) (.stop))) (.stop)) (.stop)) (.stop))) (.stop))) (.stop))) (.fork 6 (.fork 1 (.fork 3 (.fork 9 (.fork 10 (.fork 11 (.take 12 (.fork 13 (.done) (.stop))) (.stop)) (.stop)) (.stop)) (.stop)) (.fork 3 (.fork 1 (.fork 9 (.fork 10 (.fork 11 (.take 12 (.fork 13 (.done) (.stop))) (.stop)) (.stop)) (.stop)) (.fork 9 (.fork 1 (.fork 10 (.fork 11 (.take 12 (.fork 13 (.done) (.stop))) (.stop)) (.stop)) (.fork 10 (.fork 1 (.fork 11 (.take 12 (.fork 13 (.done) (.stop))) (.stop)) (.stop)) (.stop))) (.stop))) (.stop))) (.stop)))) (.stop))))) (.fork 8 (.fork 1 (.fork 3 (.fork 5 (.fork 6 (.fork 9 (.fork 10 (.fork 11 (.take 12 (.fork 13 (.done) (.stop))) (.stop)) (.stop)) (.stop)) (.stop)) (.stop)) (.fork 5 (.fork 3 (.fork 6 (.fork 9 (.fork 10 (.fork 11 (.take 12 (.fork 13 (.done) (.stop))) (.stop)) (.stop)) (.stop)) (.stop)) (.fork 6 (.fork 3 (.fork 9 (.fork 10 (.fork 11 (.take 12 (.fork 13 (.done) (.stop))) (.stop)) (.stop)) (.stop)) (.stop)) (.stop))) (.stop))) (.fork 3 (.fork 1 (.fork 5 (.fork 6 (.fork 9 (.fork 10 (.fork 11 (.take 12 (.fork 13 (.done) (.stop))) (.stop)) (.stop)) (.stop)) (.stop)) (.stop)) (.fork 5 (.fork 1 (.fork 6 (.fork 9 (.fork 10 (.fork 11 (.take 12 (.fork 13 (.done) (.stop))) (.stop)) (.stop)) (.stop)) (.stop)) (.fork 6 (.fork 1 (.fork 9 (.fork 10 (.fork 11 (.take 12 (.fork 13 (.done) (.stop))) (.stop)) (.stop)) (.stop)) (.fork 9 (.fork 1 (.fork 10 (.fork 11 (.take 12 (.fork 13 (.done) (.stop))) (.stop)) (.stop)) (.fork 10 (.fork 1 (.fork 11 (.take 12 (.fork 13 (.done) (.stop))) (.stop)) (.stop)) (.stop))) (.stop))) (.stop))) (.stop))) (.fork 5 (.fork 1 (.fork 3 (.fork 6 (.fork 9 (.fork 10 (.fork 11 (.take 12 (.fork 13 (.done) (.stop))) (.stop)) (.stop)) (.stop)) (.stop)) (.fork 6 (.fork 3 (.fork 9 (.fork 10 (.fork 11 (.take 12 (.fork 13 (.done) (.stop))) (.stop)) (.stop)) (.stop)) (.stop)) (.stop))) (.fork 3 (.fork 1 (.fork 6 (.fork 9 (.fork 10 (.fork 11 (.take 12 (.fork 13 (.done) (.stop))) (.stop)) (.stop)) (.stop)) (.stop)) (.fork 6 (.fork 1 (.fork 9 (.fork 10 (.fork 11 (.take 12 (.fork 13 (.done) (.stop))) (.stop)) (.stop)) (.stop)) (.fork 9 (.fork 1 (.fork 10 (.fork 11 (.take 12 (.fork 13 (.done) (.stop))) (.stop)) (.stop)) (.fork 10 (.fork 1 (.fork 11 (.take 12 (.fork 13 (.done) (.stop))) (.stop)) (.stop)) (.stop))) (.stop))) (.stop))) (.fork 6 (.fork 1 (.fork 3 (.fork 9 (.fork 10 (.fork 11 (.take 12 (.fork 13 (.done) (.stop))) (.stop)) (.stop)) (.stop)) (.stop)) (.fork 3 (.fork 1 (.fork 9 (.fork 10 (.fork 11 (.take 12 (.fork 13 (.done) (.stop))) (.stop)) (.stop)) (.stop)) (.fork 9 (.fork 1 (.fork 10 (.fork 11 (.take 12 (.fork 13 (.done) (.stop))) (.stop)) (.stop)) (.fork 10 (.fork 1 (.fork 11 (.take 12 (.fork 13 (.done) (.stop))) (.stop)) (.stop)) (.stop))) (.stop))) (.stop))) (.stop)))) (.stop)))) (.stop))))))))) (by kernel_rfl) (by kernel_rfl) (by kernel_rfl) ?_)
 | refine nameB_self (b := x.Up) ?_
 | (refine nameB_dec (fun h => ?_) (fun h => ?_) <;> try simp only [lensB] at h)
 | refine splitB_true ?_
 | refine splitB_false ?_
 | refine both_intro ?_ ?_
 | exact True.intro
 | ((refine Loop_nilB 4176 1 90 3 0 rfl rfl rfl (by decide) ?_; refine Loop_prom [(1, ReplicaT.shp)] ⟨⟨_, _, _, rfl, by first | exact prom_nil | exact prom_rep rfl | exact prom_map (fun _ => rfl) | exact prom_one rfl⟩, trivial⟩ ?_; refine Loop_at [2, 3, 12, 13] [16] (Nat) (fun k => True ∧ k ≤ g.Reps.length) (fun k => [(14, .int .i64 (k : Nat))]) (fun k => [(4176, ⟨true, 38, 3, [[.own 1, .int .i64 g.Term, .int .i64 g.Lead]]⟩), (1, ⟨.deep ReplicaT.shp, 90, 3, (g.Reps.take k).map ReplicaT.cells⟩)]) (fun k => g.Reps.length - k) 0 ⟨by first | (simp_all <;> fail) | rfl | fail, trivial⟩ ⟨by first | rfl | exact congrArg (fun e => some (AObj.mk _ _ _ e)) (app_snoc hx rfl) | fail | fail, by first | rfl | exact congrArg (fun e => some (AObj.mk _ _ _ e)) (app_snoc hx rfl) | fail | fail, trivial⟩ (by (try dsimp only); first | trivial | (refine ⟨?_, by omega⟩; simp <;> fail) | (simp <;> fail) | fail) ?_; (conv => whnf); refine side_and (side_of (by first | exact fun k => rfl | exact fun k => by simp [headOk, closedE, closedO, closedL, AV.closed, hcap.closed, hasId, AObj.box, BK.ofB])) ?_; rintro k hT; try dsimp only at hT))
 | (refine Again_of (k + 1) ⟨by first | rfl | exact i64_next (by omega) | (simp_all <;> fail) | fail, trivial⟩ ⟨by first | rfl | exact congrArg (fun e => some (AObj.mk _ _ _ e)) (app_snoc hx rfl) | fail | fail, by first | rfl | exact congrArg (fun e => some (AObj.mk _ _ _ e)) (app_snoc hx rfl) | fail | fail, trivial⟩ (by first | (and_intros <;> first | rfl | trivial) | fail) (by first | (and_intros <;> first | rfl | trivial) | fail) rfl rfl rfl (by (try dsimp only); first | (exact ⟨trivial, by omega⟩) | fail) (show _ < _ by (try dsimp only); omega))
 | refine CallF (c_impl_copyEntries x.Log (rep_log hw hx)) rfl rfl rfl (Nat.le_of_ble_eq_true rfl) ?_
 | (refine ix_map (by omega) (by (try simp only [List.length_take]); omega) (fun x hx => ?_); try simp only [Int.toNat_natCast] at hx)
 | refine side_and (side_of (by first | exact ⟨Nat.le_of_ble_eq_true rfl, rfl⟩ | fail)) ?_
 | refine side_and (side_of (by first | exact Nat.le_of_ble_eq_true rfl | exact rfl | omega | fail)) ?_
 | refine side_and (side_of (by first | (and_intros <;> first | rfl | omega | exact Nat.le_of_ble_eq_true rfl) | fail)) ?_
 | refine BuildD_of ReplicaT.shp rfl rfl rfl ?_
 | refine AppD_of rfl (by and_intros <;> first | rfl | decide) (deep_app (L := (g.Reps.take k).map ReplicaT.cells) rfl rfl (by rw [List.length_map, List.length_take]; omega) (Nat.le_of_ble_eq_true rfl)) ?_
 | fail
  all_goals
    conv => whnf
    exact OutA_deep rfl rfl rfl ⟨⟨congrArg (fun e => some (AObj.mk _ _ _ e)) (full_take (by omega)), rfl⟩, trivial⟩ rfl
theorem rep_logS {g : GroupT} {x : ReplicaT} {k : Nat} (hw : GB g) (h : g.Reps[k]? = some x) : wL EntryT.w x.Log ≤ 1048576 := rep_w hw (List.mem_of_getElem? h)
theorem big_appS {L M : List (List AV)} {b : Nat} (hM : M.length = 1) (hL : L.length ≤ 1048576) (hb : b ≤ 4096) : L.length + M.length ≤ 70368744177664 ∧ (L.length + M.length) * b ≤ 140737488355328 := by
  rw [hM]
  exact ⟨by omega, Nat.le_trans (Nat.mul_le_mul (Nat.succ_le_succ hL) hb) (Nat.le_of_ble_eq_true rfl)⟩
theorem big_mapS {α : Type} {f : α → List AV} {L : List α} {b : Nat} (hL : L.length ≤ 1048576) (hb : b ≤ 4096) : (L.map f).length ≤ 70368744177664 ∧ (L.map f).length * b ≤ 140737488355328 := by
  rw [List.length_map]
  exact ⟨by omega, Nat.le_trans (Nat.mul_le_mul hL hb) (Nat.le_of_ble_eq_true rfl)⟩
theorem c_spec_l9OwnLog (xs : List EntryT) (hw : wL EntryT.w xs ≤ 1048576) : PC Tryz.prog true 120 [.sl (xs.map EntryT.cells)] (.sl (xs.map EntryT.cells)) [] := by
  have hl : xs.length ≤ 1048576 := Nat.le_trans wL_len hw
  refine pc_at Tryz.func120 rfl (by kernel_rfl) 36 [.tmp 2] rfl rfl ?_
  repeat' (conv => whnf); first
 | refine side_and (side_of (big_appS (L := (xs.take k).map EntryT.cells) rfl (by rw [List.length_map, List.length_take]; omega) (Nat.le_of_ble_eq_true rfl))) ?_
 | refine side_and (side_of (one_lenC rfl rfl)) ?_
 | refine side_and (side_of (by first | (and_intros <;> first | exact Nat.le_of_ble_eq_true rfl | rfl | (intro e; exact absurd (AV.own.inj e) (by decide)) | (intro e; exact AV.noConfusion e)) | fail)) ?_
 | exact side_of (big_mapS (f := strC) (ent_len (log_mem hw hx)).2 (Nat.le_of_ble_eq_true rfl))
 | exact side_of (big_mapS (f := WriteT.cells) (ent_len (log_mem hw hx)).1 (Nat.le_of_ble_eq_true rfl))
 | (refine nameB_dec (fun h => ?_) (fun h => ?_) <;> try simp only [lensB] at h)
 | refine splitB_true ?_
 | refine splitB_false ?_
 | refine eitherB_l ?_
 | ((refine Loop_nil 3 1 124 8 rfl rfl (by decide) ?_; refine Loop_at [0] [] (Nat) (fun k => True ∧ k ≤ xs.length) (fun k => [(3, .own 1), (4, .int .i64 (k : Nat))]) (fun k => [(1, ⟨false, 124, 8, (xs.take k).map EntryT.cells⟩)]) (fun k => xs.length - k) 0 ⟨by first | rfl | (simp_all <;> fail) | fail, by first | (simp_all <;> fail) | rfl | fail, trivial⟩ ⟨by first | rfl | exact congrArg (fun e => some (AObj.mk _ _ _ e)) (app_snoc hx rfl) | fail | fail, trivial⟩ (by (try dsimp only); first | trivial | (refine ⟨?_, by omega⟩; simp <;> fail) | (simp <;> fail) | fail) ?_; (conv => whnf); refine side_and (side_of (by first | exact fun k => rfl | exact fun k => by simp [headOk, closedE, closedO, closedL, AV.closed, hcap.closed, hasId, AObj.box, BK.ofB])) ?_; rintro k hT; try dsimp only at hT))
 | (refine Again_of (k + 1) ⟨by first | rfl | (simp_all <;> fail) | fail, by first | rfl | exact i64_next (by omega) | (simp_all <;> fail) | fail, trivial⟩ ⟨by first | rfl | exact congrArg (fun e => some (AObj.mk _ _ _ e)) (app_snoc hx rfl) | fail | fail, trivial⟩ (by first | (and_intros <;> first | rfl | trivial) | fail) (by first | (and_intros <;> first | rfl | trivial) | fail) rfl rfl rfl (by (try dsimp only); first | (exact ⟨trivial, by omega⟩) | fail) (show _ < _ by (try dsimp only); omega))
 | (refine ix_map (by omega) (by (try simp only [List.length_take]); omega) (fun x hx => ?_); try simp only [Int.toNat_natCast] at hx)
 | refine side_and (side_of (map_len (fun _ => rfl))) ?_
 | refine side_and (side_of (map_one (fun _ => rfl) _)) ?_
 | refine side_and ?_ ?_
 | fail
  all_goals
    conv => whnf
    refine OutA_frz [1] ?_
    conv => whnf
    exact OutA_plain rfl rfl (congrArg AV.sl (full_take (by omega)))
theorem c_spec_l9Own (g : GroupT) (hw : GB g) : PC Tryz.prog true 69 [.agg g.cells] (.agg [.own 0, .int .i64 g.Term, .int .i64 g.Lead]) [⟨false, 90, 3, g.Reps.map ReplicaT.cells⟩] := by
  have hl := reps_len hw
  refine pc_at Tryz.func69 rfl (by kernel_rfl) 44 [.cell 2 38] rfl rfl ?_
  repeat' (conv => whnf); first
 | (show Go.Ab.drawA _ _ _ _ _; refine draw_tail 23 (by kernel_rfl) (by kernel_rfl) (by kernel_rfl) ?_)
 | refine nameB_self (b := x.Up) ?_
 | refine side_and (side_of (big_appS (L := (g.Reps.take k).map ReplicaT.cells) rfl (by rw [List.length_map, List.length_take]; omega) (Nat.le_of_ble_eq_true rfl))) ?_
 | refine side_and (side_of (one_lenC rfl rfl)) ?_
 | refine side_and (side_of (by first | (and_intros <;> first | exact Nat.le_of_ble_eq_true rfl | rfl | (intro e; exact absurd (AV.own.inj e) (by decide)) | (intro e; exact AV.noConfusion e)) | fail)) ?_
 | (refine nameB_dec (fun h => ?_) (fun h => ?_) <;> try simp only [lensB] at h)
 | refine splitB_true ?_
 | refine splitB_false ?_
 | ((refine Loop_nilB 4192 1 90 3 0 rfl rfl rfl (by decide) ?_; refine Loop_at [1, 2, 3] [0, 16] (Nat) (fun k => True ∧ k ≤ g.Reps.length) (fun k => [(4, .int .i64 (k : Nat))]) (fun k => [(4192, ⟨true, 38, 3, [[.own 1, .int .i64 g.Term, .int .i64 g.Lead]]⟩), (1, ⟨false, 90, 3, (g.Reps.take k).map ReplicaT.cells⟩)]) (fun k => g.Reps.length - k) 0 ⟨by first | (simp_all <;> fail) | rfl | fail, trivial⟩ ⟨by first | rfl | exact congrArg (fun e => some (AObj.mk _ _ _ e)) (app_snoc hx rfl) | fail | fail, by first | rfl | exact congrArg (fun e => some (AObj.mk _ _ _ e)) (app_snoc hx rfl) | fail | fail, trivial⟩ (by (try dsimp only); first | trivial | (refine ⟨?_, by omega⟩; simp <;> fail) | (simp <;> fail) | fail) ?_; (conv => whnf); refine side_and (side_of (by first | exact fun k => rfl | exact fun k => by simp [headOk, closedE, closedO, closedL, AV.closed, hcap.closed, hasId, AObj.box, BK.ofB])) ?_; rintro k hT; try dsimp only at hT))
 | (refine Again_of (k + 1) ⟨by first | rfl | exact i64_next (by omega) | (simp_all <;> fail) | fail, trivial⟩ ⟨by first | rfl | exact congrArg (fun e => some (AObj.mk _ _ _ e)) (app_snoc hx rfl) | fail | fail, by first | rfl | exact congrArg (fun e => some (AObj.mk _ _ _ e)) (app_snoc hx rfl) | fail | fail, trivial⟩ (by first | (and_intros <;> first | rfl | trivial) | fail) (by first | (and_intros <;> first | rfl | trivial) | fail) rfl rfl rfl (by (try dsimp only); first | (exact ⟨trivial, by omega⟩) | fail) (show _ < _ by (try dsimp only); omega))
 | refine CallDT (c_spec_l9OwnLog x.Log (rep_logS hw hx)) rfl rfl rfl ⟨rfl, rfl⟩ ?_
 | refine ix_map_at hx ?_
 | (refine ix_map (by omega) (by (try simp only [List.length_take]); omega) (fun x hx => ?_); try simp only [Int.toNat_natCast] at hx)
 | refine LoadK_of rfl rfl ?_
 | fail
  all_goals
    conv => whnf
    exact OutA_ids rfl rfl rfl ⟨⟨_, _, _, rfl, congrArg (AObj.mk false _ _) (full_take (by omega)).symm⟩, trivial⟩ rfl (.inl rfl)
end Go.Proofs.YtfpkfnfgloonhaaGreat
