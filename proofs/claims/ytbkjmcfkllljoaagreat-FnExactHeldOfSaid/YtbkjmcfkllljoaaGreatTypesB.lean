/-
  What the laws' functions on Held, HeldS, Told, ToldS, State, Entry give.
  No condition.
-/
import Derived.Test.YtbkjmcfkllljoaaGreatTypesP
import Derived.Test.YtbkjmcfkllljoaaGreatProg
import Derived.KernelRfl
namespace Go.Proofs.YtbkjmcfkllljoaaGreat
open Go.Ab
set_option linter.unusedSimpArgs false
set_option maxRecDepth 20000
set_option maxHeartbeats 4000000
set_option linter.unusedVariables false

structure HeldT where
  Txn : Int
  Time : Int
  Lead : Int
  Reads : List (List UInt8)
  Writes : List WriteT
deriving DecidableEq
def HeldT.cells (x : HeldT) : List AV := [.int .i64 x.Txn, .int .i64 x.Time, .int .i64 x.Lead, .sl (x.Reads.map strC), .sl (x.Writes.map WriteT.cells)]
def HeldT.ok (x : HeldT) : Prop := okT x.Txn ∧ okT x.Time ∧ okT x.Lead ∧ (okL okS) x.Reads ∧ (okL WriteT.ok) x.Writes
def HeldT.w (x : HeldT) : Nat := wL List.length x.Reads + wL WriteT.w x.Writes
theorem HeldT.same {x y : HeldT} (hTxn : x.Txn = y.Txn) (hTime : x.Time = y.Time) (hLead : x.Lead = y.Lead) (hReads : x.Reads = y.Reads) (hWrites : x.Writes = y.Writes) : x = y := by cases x; cases y; simp_all
theorem open_Held : ∀ n cs, Sh Tryz.prog n 268 cs → ∃ x : HeldT, cs = HeldT.cells x ∧ HeldT.ok x := by
  intro n cs h
  cases n with
  | zero => unfold Sh at h; exact h.elim
  | succ n =>
    unfold Sh at h
    rw [Tryz.underlying268] at h
    simp only [ShL] at h
    obtain ⟨y0, z0, rfl, g0, y1, z1, rfl, g1, y2, z2, rfl, g2, y3, z3, rfl, g3, y4, z4, rfl, g4, rfl⟩ := h
    obtain ⟨x0, rfl, o0⟩ := open_int Tryz.underlying3 _ _ g0
    obtain ⟨x1, rfl, o1⟩ := open_int Tryz.underlying3 _ _ g1
    obtain ⟨x2, rfl, o2⟩ := open_int Tryz.underlying3 _ _ g2
    obtain ⟨x3, rfl, o3⟩ := open_list Tryz.underlying44 (open_str Tryz.underlying9) _ _ g3
    obtain ⟨x4, rfl, o4⟩ := open_list Tryz.underlying45 (open_Write) _ _ g4
    exact ⟨⟨x0, x1, x2, x3, x4⟩, rfl, o0, o1, o2, o3, o4⟩
def HeldT.shp : List Shp := [.leaf, .leaf, .leaf, .sl 9 1 [.leaf], .sl 193 3 WriteT.shp]
def HeldT.mkM (x : HeldT) (k : Int) : HeldT := ⟨k, k + 1, k + 1 + 1, mkL mkStr cnt1 x.Reads (k + 1 + 1 + 1), mkL WriteT.mkM WriteT.cnt x.Writes (k + 1 + 1 + 1 + (cntL cnt1 x.Reads : Int))⟩
def HeldT.cnt (x : HeldT) : Nat := 1 + 1 + 1 + cntL cnt1 x.Reads + cntL WriteT.cnt x.Writes
theorem cntL_len_Held (xs : List HeldT) : xs.length ≤ cntL HeldT.cnt xs := by
  induction xs with
  | nil => exact Nat.zero_le _
  | cons x xs ih =>
    simp only [cntL, List.map_cons, List.sum_cons, List.length_cons] at ih ⊢
    have hcx : HeldT.cnt x = 1 + 1 + 1 + cntL cnt1 x.Reads + cntL WriteT.cnt x.Writes := rfl
    omega
def HeldT.mkS (x : HeldT) (k : Int) : HeldT := ⟨x.Txn, x.Time, x.Lead, mkL mkStr cnt1 x.Reads k, mkL WriteT.mkM WriteT.cnt x.Writes (k + (cntL cnt1 x.Reads : Int))⟩
def HeldT.cntS (x : HeldT) (k : Int) : Int := k + (cntL cnt1 x.Reads : Int) + (cntL WriteT.cnt x.Writes : Int)
theorem HeldT.cnt_w (x : HeldT) : HeldT.cnt x ≤ 100 * (1 + HeldT.w x) := by
  have h0 := cntL_w100 (cnt := cnt1) (w := List.length) (fun _ => one_w100) x.Reads
  have h1 := cntL_w100 (cnt := WriteT.cnt) (w := WriteT.w) (fun y => WriteT.cnt_w y) x.Writes
  simp only [HeldT.cnt, HeldT.w] at *
  omega
theorem HeldT.cntS_w (x : HeldT) (k : Int) : HeldT.cntS x k ≤ k + 100 * (1 + (HeldT.w x : Int)) := by
  have h0 := cntL_w100 (cnt := cnt1) (w := List.length) (fun _ => one_w100) x.Reads
  have h1 := cntL_w100 (cnt := WriteT.cnt) (w := WriteT.w) (fun y => WriteT.cnt_w y) x.Writes
  simp only [HeldT.cntS, HeldT.cnt, HeldT.w] at *
  omega
theorem c_laws_szHeld (x : HeldT) (n : Int) (h0 : 0 ≤ n) (h1 : n ≤ 1048576) (hok : x.ok) : PC Tryz.prog false 214 [.agg x.cells, .int .i64 n] (.int .i64 (szN n x.w)) [] := by
  have oReads : (okL okS) x.Reads := hok.2.2.2.1
  have oWrites : (okL WriteT.ok) x.Writes := hok.2.2.2.2
  have hw : x.w = wL List.length x.Reads + wL WriteT.w x.Writes := rfl
  refine pc_at Tryz.func214 rfl (by kernel_rfl) 18 [.tmp 4] rfl rfl ?_
  repeat' (conv => whnf); first
    | refine nameB_true ?_
    | refine nameB_false ?_
    | refine nameB_yes (by assumption) ?_
    | refine nameB_no (by assumption) ?_
    | refine nameB_dyes (by assumption) ?_
    | refine nameB_dno (by assumption) ?_
    | (refine nameB_dec (fun h => ?_) (fun h => ?_) <;> try simp only [List.length_map, List.length_take, List.length_append, List.length_drop, List.length_set, markList_length, midL_len, mkL_length, Int.toNat_natCast, fact_byte] at h)
    | (refine nameB_cases (fun h => ?_) (fun h => ?_) <;> try simp only [bne_iff_ne, ne_eq, bne_eq_false_iff_eq, beq_iff_eq, beq_eq_false_iff_ne, Bool.not_eq_true', Bool.not_eq_false', Bool.or_eq_true, Bool.or_eq_false_iff, List.length_map, List.length_take, List.length_append, List.length_drop, List.length_set, markList_length, midL_len, mkL_length, Int.toNat_natCast, fact_byte] at h)
    | refine splitB_true ?_
    | refine splitB_false ?_
    | (refine splitB_intro (fun h => ?_) (fun h => ?_) <;> subst h)
    | refine draw_text (by kernel_rfl) (by kernel_rfl) (by kernel_rfl) ?_
    | refine both_intro ?_ ?_
    | exact True.intro
    | (show Go.Ab.CallA _ _ _ _ _ _ _; first
        | (by_cases hn0 : n - ((wL List.length x.Reads : Nat) : Int) < 0 <;> first | refine Call0 (pc_szneg (c_laws_szStringS x.Reads n (by (try simp only [i64_wrap_eq] at *); omega) (by (try simp only [i64_wrap_eq] at *); omega) oReads) hn0) rfl rfl ?_ | refine Call0 (pc_szpos (c_laws_szStringS x.Reads n (by (try simp only [i64_wrap_eq] at *); omega) (by (try simp only [i64_wrap_eq] at *); omega) oReads) hn0) rfl rfl ?_)
        | (by_cases hn1 : (n - ((wL List.length x.Reads : Nat) : Int)) - ((wL WriteT.w x.Writes : Nat) : Int) < 0 <;> first | refine Call0 (pc_szneg (c_laws_szWriteS x.Writes (n - ((wL List.length x.Reads : Nat) : Int)) (by (try simp only [i64_wrap_eq] at *); omega) (by (try simp only [i64_wrap_eq] at *); omega) oWrites) hn1) rfl rfl ?_ | refine Call0 (pc_szpos (c_laws_szWriteS x.Writes (n - ((wL List.length x.Reads : Nat) : Int)) (by (try simp only [i64_wrap_eq] at *); omega) (by (try simp only [i64_wrap_eq] at *); omega) oWrites) hn1) rfl rfl ?_))
    | refine ix_map_at hx ?_
    | refine ix_map_at hy ?_
    | refine sl_pre (by omega) (fun _ => rfl) ?_
    | refine sl_suf (by omega) (fun _ => rfl) ?_
    | (refine ix_map2 hx (by omega) (by (try simp only [List.length_take]); omega) (fun y hy => ?_); try simp only [Int.toNat_natCast] at hy)
    | (refine ix_map (by omega) (by (try simp only [List.length_take]); omega) (fun x hx => ?_); try simp only [Int.toNat_natCast] at hx)
    | refine side_and (side_of (by first | (and_intros <;> first | exact Nat.le_of_ble_eq_true rfl | rfl | omega | (simp only [List.length_map, List.length_append, List.length_replicate, List.length_take, List.length_cons, List.length_nil, List.length_drop, List.length_set, markList_length, midL_len, mkL_length]; omega) | exact bytes_ok (Nat.le_of_ble_eq_true rfl) (by omega) (by simp only [List.length_map, List.length_append, List.length_replicate, List.length_take, List.length_cons, List.length_nil, List.length_drop, List.length_set, markList_length, midL_len, mkL_length]; omega) | exact bytes_okN (Nat.le_of_ble_eq_true rfl) (by simp only [List.length_map, List.length_append, List.length_replicate, List.length_take, List.length_cons, List.length_nil, List.length_drop, List.length_set, markList_length, midL_len, mkL_length]; omega)) | fail)) ?_
    | refine nilB_intro (fun h => ?_) ?_
    | refine side_and (side_of (show Go.Ab.structOk _ _ = true by kernel_rfl)) ?_
    | refine side_and (side_of (map_len (fun _ => rfl))) ?_
    | refine side_and (side_of (map_one (fun _ => rfl) _)) ?_
    | refine side_and ?_ ?_
    | refine LoadK_of rfl rfl ?_
    | refine LoadD_cel rfl rfl rfl rfl ?_
    | refine LoadD_of rfl ?_
    | refine StoreD_of rfl rfl rfl ?_
    | refine AppD_of rfl (by and_intros <;> first | rfl | decide) (by simp only [List.length_map, List.length_append, List.length_take, List.length_cons, List.length_nil]; first | (refine ⟨by omega, ?_⟩; refine Nat.le_trans (Nat.mul_le_mul_left _ (show _ ≤ 512 by decide)) ?_; omega) | fail) ?_
    | refine AppN_of rfl rfl (by and_intros <;> rfl) (by simp only [List.length_map, List.length_append, List.length_take, List.length_cons, List.length_nil]; first | (refine ⟨by omega, ?_⟩; refine Nat.le_trans (Nat.mul_le_mul_left _ (show _ ≤ 512 by decide)) ?_; omega) | fail) ?_
    | (show False; omega)
  all_goals
    conv => whnf
    refine OutA_plain rfl rfl ?_
    refine congrArg (AV.int .i64) ?_
    (try simp only [i64_wrap_eq] at *)
    first | exact szN_neg (by omega) | exact szN_pos (by omega) (by omega)
theorem c_laws_toHeld (x : HeldT) (hw : HeldT.w x ≤ 1048576) : PC Tryz.prog false 224 [.agg x.cells] (.agg [.int .i64 x.Txn, .int .i64 x.Time, .int .i64 x.Lead, .own 0, .own 1]) [⟨.deep [.leaf], 9, 1, (x.Reads.map strC)⟩, ⟨.deep WriteT.shp, 193, 3, (x.Writes.map WriteT.cells)⟩] := by
  have hw2 : x.w = wL List.length x.Reads + wL WriteT.w x.Writes := rfl
  refine pc_at Tryz.func224 rfl (by kernel_rfl) 22 [.cell 2 127] rfl rfl ?_
  repeat' (conv => whnf); first
    | refine nameB_true ?_
    | refine nameB_false ?_
    | refine nameB_yes (by assumption) ?_
    | refine nameB_no (by assumption) ?_
    | refine nameB_dyes (by assumption) ?_
    | refine nameB_dno (by assumption) ?_
    | (refine nameB_dec (fun h => ?_) (fun h => ?_) <;> try simp only [List.length_map, List.length_take, List.length_append, List.length_drop, List.length_set, markList_length, midL_len, mkL_length, Int.toNat_natCast, fact_byte] at h)
    | (refine nameB_cases (fun h => ?_) (fun h => ?_) <;> try simp only [bne_iff_ne, ne_eq, bne_eq_false_iff_eq, beq_iff_eq, beq_eq_false_iff_ne, Bool.not_eq_true', Bool.not_eq_false', Bool.or_eq_true, Bool.or_eq_false_iff, List.length_map, List.length_take, List.length_append, List.length_drop, List.length_set, markList_length, midL_len, mkL_length, Int.toNat_natCast, fact_byte] at h)
    | refine splitB_true ?_
    | refine splitB_false ?_
    | (refine splitB_intro (fun h => ?_) (fun h => ?_) <;> subst h)
    | refine draw_text (by kernel_rfl) (by kernel_rfl) (by kernel_rfl) ?_
    | refine both_intro ?_ ?_
    | exact True.intro
    | (show Go.Ab.CallA _ _ _ _ _ _ _; first
        | refine CallF (c_laws_toStringS x.Reads (by omega)) rfl rfl rfl (Nat.le_of_ble_eq_true rfl) ?_
        | refine CallF (c_laws_toWriteS x.Writes (by omega)) rfl rfl rfl (Nat.le_of_ble_eq_true rfl) ?_)
    | refine ix_map_at hx ?_
    | refine ix_map_at hy ?_
    | refine sl_pre (by omega) (fun _ => rfl) ?_
    | refine sl_suf (by omega) (fun _ => rfl) ?_
    | (refine ix_map2 hx (by omega) (by (try simp only [List.length_take]); omega) (fun y hy => ?_); try simp only [Int.toNat_natCast] at hy)
    | (refine ix_map (by omega) (by (try simp only [List.length_take]); omega) (fun x hx => ?_); try simp only [Int.toNat_natCast] at hx)
    | refine side_and (side_of (by first | (and_intros <;> first | exact Nat.le_of_ble_eq_true rfl | rfl | omega | (simp only [List.length_map, List.length_append, List.length_replicate, List.length_take, List.length_cons, List.length_nil, List.length_drop, List.length_set, markList_length, midL_len, mkL_length]; omega) | exact bytes_ok (Nat.le_of_ble_eq_true rfl) (by omega) (by simp only [List.length_map, List.length_append, List.length_replicate, List.length_take, List.length_cons, List.length_nil, List.length_drop, List.length_set, markList_length, midL_len, mkL_length]; omega) | exact bytes_okN (Nat.le_of_ble_eq_true rfl) (by simp only [List.length_map, List.length_append, List.length_replicate, List.length_take, List.length_cons, List.length_nil, List.length_drop, List.length_set, markList_length, midL_len, mkL_length]; omega)) | fail)) ?_
    | refine nilB_intro (fun h => ?_) ?_
    | refine side_and (side_of (show Go.Ab.structOk _ _ = true by kernel_rfl)) ?_
    | refine side_and (side_of (map_len (fun _ => rfl))) ?_
    | refine side_and (side_of (map_one (fun _ => rfl) _)) ?_
    | refine side_and ?_ ?_
    | refine LoadK_of rfl rfl ?_
    | refine LoadD_cel rfl rfl rfl rfl ?_
    | refine LoadD_of rfl ?_
    | refine StoreD_of rfl rfl rfl ?_
    | refine AppD_of rfl (by and_intros <;> first | rfl | decide) (by simp only [List.length_map, List.length_append, List.length_take, List.length_cons, List.length_nil]; first | (refine ⟨by omega, ?_⟩; refine Nat.le_trans (Nat.mul_le_mul_left _ (show _ ≤ 512 by decide)) ?_; omega) | fail) ?_
    | refine AppN_of rfl rfl (by and_intros <;> rfl) (by simp only [List.length_map, List.length_append, List.length_take, List.length_cons, List.length_nil]; first | (refine ⟨by omega, ?_⟩; refine Nat.le_trans (Nat.mul_le_mul_left _ (show _ ≤ 512 by decide)) ?_; omega) | fail) ?_
    | (show False; omega)
  all_goals
    conv => whnf
    exact OutA_deep rfl rfl rfl ⟨⟨rfl, rfl⟩, ⟨⟨rfl, rfl⟩, trivial⟩⟩ rfl
theorem c_laws_eqHeld (x y : HeldT) (hok : x.ok) : PC Tryz.prog false 73 [.agg x.cells, .agg y.cells] (.bool (decide (x = y))) [] := by
  refine pc_at Tryz.func73 rfl (by kernel_rfl) 32 [.tmp 4] rfl rfl ?_
  repeat' (conv => whnf); first
    | refine nameB_true ?_
    | refine nameB_false ?_
    | refine nameB_yes (by assumption) ?_
    | refine nameB_no (by assumption) ?_
    | refine nameB_dyes (by assumption) ?_
    | refine nameB_dno (by assumption) ?_
    | (refine nameB_dec (fun h => ?_) (fun h => ?_) <;> try simp only [List.length_map, List.length_take, List.length_append, List.length_drop, List.length_set, markList_length, midL_len, mkL_length, Int.toNat_natCast, fact_byte] at h)
    | (refine nameB_cases (fun h => ?_) (fun h => ?_) <;> try simp only [bne_iff_ne, ne_eq, bne_eq_false_iff_eq, beq_iff_eq, beq_eq_false_iff_ne, Bool.not_eq_true', Bool.not_eq_false', Bool.or_eq_true, Bool.or_eq_false_iff, List.length_map, List.length_take, List.length_append, List.length_drop, List.length_set, markList_length, midL_len, mkL_length, Int.toNat_natCast, fact_byte] at h)
    | refine splitB_true ?_
    | refine splitB_false ?_
    | (refine splitB_intro (fun h => ?_) (fun h => ?_) <;> subst h)
    | refine draw_text (by kernel_rfl) (by kernel_rfl) (by kernel_rfl) ?_
    | refine both_intro ?_ ?_
    | exact True.intro
    | (show Go.Ab.CallA _ _ _ _ _ _ _; first
        | refine Call0 (c_laws_eqStringS x.Reads y.Reads (hok.2.2.2.1)) rfl rfl ?_
        | refine Call0 (c_laws_eqWriteS x.Writes y.Writes (hok.2.2.2.2)) rfl rfl ?_)
    | refine ix_map_at hx ?_
    | refine ix_map_at hy ?_
    | refine sl_pre (by omega) (fun _ => rfl) ?_
    | refine sl_suf (by omega) (fun _ => rfl) ?_
    | (refine ix_map2 hx (by omega) (by (try simp only [List.length_take]); omega) (fun y hy => ?_); try simp only [Int.toNat_natCast] at hy)
    | (refine ix_map (by omega) (by (try simp only [List.length_take]); omega) (fun x hx => ?_); try simp only [Int.toNat_natCast] at hx)
    | refine side_and (side_of (by first | (and_intros <;> first | exact Nat.le_of_ble_eq_true rfl | rfl | omega | (simp only [List.length_map, List.length_append, List.length_replicate, List.length_take, List.length_cons, List.length_nil, List.length_drop, List.length_set, markList_length, midL_len, mkL_length]; omega) | exact bytes_ok (Nat.le_of_ble_eq_true rfl) (by omega) (by simp only [List.length_map, List.length_append, List.length_replicate, List.length_take, List.length_cons, List.length_nil, List.length_drop, List.length_set, markList_length, midL_len, mkL_length]; omega) | exact bytes_okN (Nat.le_of_ble_eq_true rfl) (by simp only [List.length_map, List.length_append, List.length_replicate, List.length_take, List.length_cons, List.length_nil, List.length_drop, List.length_set, markList_length, midL_len, mkL_length]; omega)) | fail)) ?_
    | refine nilB_intro (fun h => ?_) ?_
    | refine side_and (side_of (show Go.Ab.structOk _ _ = true by kernel_rfl)) ?_
    | refine side_and (side_of (map_len (fun _ => rfl))) ?_
    | refine side_and (side_of (map_one (fun _ => rfl) _)) ?_
    | refine side_and ?_ ?_
    | refine LoadK_of rfl rfl ?_
    | refine LoadD_cel rfl rfl rfl rfl ?_
    | refine LoadD_of rfl ?_
    | refine StoreD_of rfl rfl rfl ?_
    | refine AppD_of rfl (by and_intros <;> first | rfl | decide) (by simp only [List.length_map, List.length_append, List.length_take, List.length_cons, List.length_nil]; first | (refine ⟨by omega, ?_⟩; refine Nat.le_trans (Nat.mul_le_mul_left _ (show _ ≤ 512 by decide)) ?_; omega) | fail) ?_
    | refine AppN_of rfl rfl (by and_intros <;> rfl) (by simp only [List.length_map, List.length_append, List.length_take, List.length_cons, List.length_nil]; first | (refine ⟨by omega, ?_⟩; refine Nat.le_trans (Nat.mul_le_mul_left _ (show _ ≤ 512 by decide)) ?_; omega) | fail) ?_
    | (show False; omega)
  all_goals
    conv => whnf
    refine OutA_plain rfl rfl ?_
    first
    | exact bool_no (fun e => absurd (congrArg HeldT.Txn e) (by assumption))
    | exact bool_no (fun e => absurd (congrArg HeldT.Time e) (by assumption))
    | exact bool_no (fun e => absurd (congrArg HeldT.Lead e) (by assumption))
    | exact bool_no (fun e => absurd (congrArg HeldT.Reads e) (by assumption))
    | exact bool_no (fun e => absurd (congrArg HeldT.Writes e) (by assumption))
    | exact bool_yes (HeldT.same (by assumption) (by assumption) (by assumption) (by assumption) (by assumption))
theorem m_laws_markHeld (x : HeldT) (k : Int) (h0 : 0 ≤ k) (h1 : HeldT.cntS x k ≤ 1152921504606846976) : MC Tryz.prog 75 true x.cells HeldT.shp k (HeldT.mkS x k).cells (HeldT.cntS x k) := by
  have hcx : HeldT.cntS x k = k + (cntL cnt1 x.Reads : Int) + (cntL WriteT.cnt x.Writes : Int) := rfl
  refine mc_of Tryz.func75 rfl (by kernel_rfl) 14 [.tmp 4] [.int .i64 x.Txn, .int .i64 x.Time, .int .i64 x.Lead, .own 0, .own 1] rfl rfl (fun e => by first | rfl | cases e) rfl rfl ?_
  repeat' (conv => whnf); first
    | refine nameB_true ?_
    | refine nameB_false ?_
    | refine nameB_yes (by assumption) ?_
    | refine nameB_no (by assumption) ?_
    | refine nameB_dyes (by assumption) ?_
    | refine nameB_dno (by assumption) ?_
    | (refine nameB_dec (fun h => ?_) (fun h => ?_) <;> try simp only [List.length_map, List.length_take, List.length_append, List.length_drop, List.length_set, markList_length, midL_len, mkL_length, Int.toNat_natCast, fact_byte] at h)
    | (refine nameB_cases (fun h => ?_) (fun h => ?_) <;> try simp only [bne_iff_ne, ne_eq, bne_eq_false_iff_eq, beq_iff_eq, beq_eq_false_iff_ne, Bool.not_eq_true', Bool.not_eq_false', Bool.or_eq_true, Bool.or_eq_false_iff, List.length_map, List.length_take, List.length_append, List.length_drop, List.length_set, markList_length, midL_len, mkL_length, Int.toNat_natCast, fact_byte] at h)
    | refine splitB_true ?_
    | refine splitB_false ?_
    | (refine splitB_intro (fun h => ?_) (fun h => ?_) <;> subst h)
    | refine draw_text (by kernel_rfl) (by kernel_rfl) (by kernel_rfl) ?_
    | refine both_intro ?_ ?_
    | exact True.intro
    | (show Go.Ab.CallA _ _ _ _ _ _ _; first
        | refine CallM1 (m_laws_markStringS x.Reads k (by omega) (by omega) (by have hll := cntL_len_leaf x.Reads; omega)) [] trivial rfl rfl ?_
        | refine CallM1 (m_laws_markWriteS x.Writes (k + (cntL cnt1 x.Reads : Int)) (by omega) (by omega) (by have hll := cntL_len_Write x.Writes; omega)) [] trivial rfl rfl ?_)
    | refine ix_map_at hx ?_
    | refine ix_map_at hy ?_
    | refine sl_pre (by omega) (fun _ => rfl) ?_
    | refine sl_suf (by omega) (fun _ => rfl) ?_
    | (refine ix_map2 hx (by omega) (by (try simp only [List.length_take]); omega) (fun y hy => ?_); try simp only [Int.toNat_natCast] at hy)
    | (refine ix_map (by omega) (by (try simp only [List.length_take]); omega) (fun x hx => ?_); try simp only [Int.toNat_natCast] at hx)
    | refine side_and (side_of (by first | (and_intros <;> first | exact Nat.le_of_ble_eq_true rfl | rfl | omega | (simp only [List.length_map, List.length_append, List.length_replicate, List.length_take, List.length_cons, List.length_nil, List.length_drop, List.length_set, markList_length, midL_len, mkL_length]; omega) | exact bytes_ok (Nat.le_of_ble_eq_true rfl) (by omega) (by simp only [List.length_map, List.length_append, List.length_replicate, List.length_take, List.length_cons, List.length_nil, List.length_drop, List.length_set, markList_length, midL_len, mkL_length]; omega) | exact bytes_okN (Nat.le_of_ble_eq_true rfl) (by simp only [List.length_map, List.length_append, List.length_replicate, List.length_take, List.length_cons, List.length_nil, List.length_drop, List.length_set, markList_length, midL_len, mkL_length]; omega)) | fail)) ?_
    | refine nilB_intro (fun h => ?_) ?_
    | refine side_and (side_of (show Go.Ab.structOk _ _ = true by kernel_rfl)) ?_
    | refine side_and (side_of (map_len (fun _ => rfl))) ?_
    | refine side_and (side_of (map_one (fun _ => rfl) _)) ?_
    | refine side_and ?_ ?_
    | refine LoadK_of rfl rfl ?_
    | refine LoadD_cel rfl rfl rfl rfl ?_
    | refine LoadD_of rfl ?_
    | refine StoreD_of rfl rfl rfl ?_
    | refine AppD_of rfl (by and_intros <;> first | rfl | decide) (by simp only [List.length_map, List.length_append, List.length_take, List.length_cons, List.length_nil]; first | (refine ⟨by omega, ?_⟩; refine Nat.le_trans (Nat.mul_le_mul_left _ (show _ ≤ 512 by decide)) ?_; omega) | fail) ?_
    | refine AppN_of rfl rfl (by and_intros <;> rfl) (by simp only [List.length_map, List.length_append, List.length_take, List.length_cons, List.length_nil]; first | (refine ⟨by omega, ?_⟩; refine Nat.le_trans (Nat.mul_le_mul_left _ (show _ ≤ 512 by decide)) ?_; omega) | fail) ?_
    | (show False; omega)
  all_goals
    conv => whnf
    exact OutM_of (by rfl) (by rfl) (by rfl) (by rfl) (by rfl)
theorem c_laws_heldHeld (x : HeldT) (k : Int) (h0 : 0 ≤ k) (h1 : HeldT.cntS x k ≤ 1152921504606846976) : PC Tryz.prog false 76 [.agg (HeldT.mkS x k).cells, .int .i64 k] (.int .i64 (HeldT.cntS x k)) [] := by
  have hcx : HeldT.cntS x k = k + (cntL cnt1 x.Reads : Int) + (cntL WriteT.cnt x.Writes : Int) := rfl
  refine pc_at Tryz.func76 rfl (by kernel_rfl) 18 [.tmp 4] rfl rfl ?_
  repeat' (conv => whnf); first
    | refine nameB_no (b := decide (_ < (0 : Int))) (decide_eq_false (by omega)) ?_
    | refine nameB_true ?_
    | refine nameB_false ?_
    | refine nameB_yes (by assumption) ?_
    | refine nameB_no (by assumption) ?_
    | refine nameB_dyes (by assumption) ?_
    | refine nameB_dno (by assumption) ?_
    | (refine nameB_dec (fun h => ?_) (fun h => ?_) <;> try simp only [List.length_map, List.length_take, List.length_append, List.length_drop, List.length_set, markList_length, midL_len, mkL_length, Int.toNat_natCast, fact_byte] at h)
    | (refine nameB_cases (fun h => ?_) (fun h => ?_) <;> try simp only [bne_iff_ne, ne_eq, bne_eq_false_iff_eq, beq_iff_eq, beq_eq_false_iff_ne, Bool.not_eq_true', Bool.not_eq_false', Bool.or_eq_true, Bool.or_eq_false_iff, List.length_map, List.length_take, List.length_append, List.length_drop, List.length_set, markList_length, midL_len, mkL_length, Int.toNat_natCast, fact_byte] at h)
    | refine splitB_true ?_
    | refine splitB_false ?_
    | (refine splitB_intro (fun h => ?_) (fun h => ?_) <;> subst h)
    | refine draw_text (by kernel_rfl) (by kernel_rfl) (by kernel_rfl) ?_
    | refine both_intro ?_ ?_
    | exact True.intro
    | (show Go.Ab.CallA _ _ _ _ _ _ _; first
        | refine Call0 (c_laws_heldStringS x.Reads (k) (by omega) (by omega) (by have hll := cntL_len_leaf x.Reads; omega)) rfl rfl ?_
        | refine Call0 (c_laws_heldWriteS x.Writes (k + (cntL cnt1 x.Reads : Int)) (by omega) (by omega) (by have hll := cntL_len_Write x.Writes; omega)) rfl rfl ?_)
    | refine ix_map_at hx ?_
    | refine ix_map_at hy ?_
    | refine sl_pre (by omega) (fun _ => rfl) ?_
    | refine sl_suf (by omega) (fun _ => rfl) ?_
    | (refine ix_map2 hx (by omega) (by (try simp only [List.length_take]); omega) (fun y hy => ?_); try simp only [Int.toNat_natCast] at hy)
    | (refine ix_map (by omega) (by (try simp only [List.length_take]); omega) (fun x hx => ?_); try simp only [Int.toNat_natCast] at hx)
    | refine side_and (side_of (by first | (and_intros <;> first | exact Nat.le_of_ble_eq_true rfl | rfl | omega | (simp only [List.length_map, List.length_append, List.length_replicate, List.length_take, List.length_cons, List.length_nil, List.length_drop, List.length_set, markList_length, midL_len, mkL_length]; omega) | exact bytes_ok (Nat.le_of_ble_eq_true rfl) (by omega) (by simp only [List.length_map, List.length_append, List.length_replicate, List.length_take, List.length_cons, List.length_nil, List.length_drop, List.length_set, markList_length, midL_len, mkL_length]; omega) | exact bytes_okN (Nat.le_of_ble_eq_true rfl) (by simp only [List.length_map, List.length_append, List.length_replicate, List.length_take, List.length_cons, List.length_nil, List.length_drop, List.length_set, markList_length, midL_len, mkL_length]; omega)) | fail)) ?_
    | refine nilB_intro (fun h => ?_) ?_
    | refine side_and (side_of (show Go.Ab.structOk _ _ = true by kernel_rfl)) ?_
    | refine side_and (side_of (map_len (fun _ => rfl))) ?_
    | refine side_and (side_of (map_one (fun _ => rfl) _)) ?_
    | refine side_and ?_ ?_
    | refine LoadK_of rfl rfl ?_
    | refine LoadD_cel rfl rfl rfl rfl ?_
    | refine LoadD_of rfl ?_
    | refine StoreD_of rfl rfl rfl ?_
    | refine AppD_of rfl (by and_intros <;> first | rfl | decide) (by simp only [List.length_map, List.length_append, List.length_take, List.length_cons, List.length_nil]; first | (refine ⟨by omega, ?_⟩; refine Nat.le_trans (Nat.mul_le_mul_left _ (show _ ≤ 512 by decide)) ?_; omega) | fail) ?_
    | refine AppN_of rfl rfl (by and_intros <;> rfl) (by simp only [List.length_map, List.length_append, List.length_take, List.length_cons, List.length_nil]; first | (refine ⟨by omega, ?_⟩; refine Nat.le_trans (Nat.mul_le_mul_left _ (show _ ≤ 512 by decide)) ?_; omega) | fail) ?_
    | (show False; omega)
  all_goals
    conv => whnf
    exact OutA_plain rfl rfl rfl
theorem c_laws_szHeldS (xs : List HeldT) (n : Int) (h0 : 0 ≤ n) (h1 : n ≤ 1048576) (hok : (okL HeldT.ok) xs) : PC Tryz.prog false 119 [.sl (xs.map HeldT.cells), .int .i64 n] (.int .i64 (szN n (wL HeldT.w xs))) [] := by
  have hl := hok.1
  refine pc_at Tryz.func119 rfl (by kernel_rfl) 27 [.tmp 4] rfl rfl ?_
  repeat' (conv => whnf); first
    | refine nameB_true ?_
    | refine nameB_false ?_
    | refine nameB_yes (by assumption) ?_
    | refine nameB_no (by assumption) ?_
    | refine nameB_dyes (by assumption) ?_
    | refine nameB_dno (by assumption) ?_
    | (refine nameB_dec (fun h => ?_) (fun h => ?_) <;> try simp only [List.length_map, List.length_take, List.length_append, List.length_drop, List.length_set, markList_length, midL_len, mkL_length, Int.toNat_natCast, fact_byte] at h)
    | (refine nameB_cases (fun h => ?_) (fun h => ?_) <;> try simp only [bne_iff_ne, ne_eq, bne_eq_false_iff_eq, beq_iff_eq, beq_eq_false_iff_ne, Bool.not_eq_true', Bool.not_eq_false', Bool.or_eq_true, Bool.or_eq_false_iff, List.length_map, List.length_take, List.length_append, List.length_drop, List.length_set, markList_length, midL_len, mkL_length, Int.toNat_natCast, fact_byte] at h)
    | refine splitB_true ?_
    | refine splitB_false ?_
    | (refine splitB_intro (fun h => ?_) (fun h => ?_) <;> subst h)
    | refine draw_text (by kernel_rfl) (by kernel_rfl) (by kernel_rfl) ?_
    | refine both_intro ?_ ?_
    | exact True.intro
    | (show Go.Ab.Loop _ _ _; (refine Loop_at [0] [] (Nat × Int) (fun j => match j with | (k, m) => (0 ≤ m ∧ m ≤ 1048576) ∧ m - (((xs.drop k).map HeldT.w).sum : Nat) = n - (wL HeldT.w xs : Nat) ∧ k ≤ xs.length) (fun j => match j with | (k, m) => [(1, .int .i64 m), (5, .int .i64 (k : Nat))]) (fun j => match j with | (k, m) => []) (fun j => match j with | (k, m) => xs.length - k) (0, _) ⟨rfl, by first | (simp_all <;> fail) | rfl | fail, trivial⟩ trivial (by (try dsimp only); first | ((simp only [i64_wrap_eq, List.length_map, wL, List.drop_zero] at *; omega)) | fail) ?_; (conv => whnf); refine side_and (side_of (by first | exact fun ⟨k, m⟩ => rfl | exact fun ⟨k, m⟩ => by simp [headOk, closedE, closedO, closedL, AV.closed, hcap.closed, hasId])) ?_; rintro ⟨k, m⟩ hT; try dsimp only at hT))
    | (show Go.Ab.Again _ _ _ _ _ _ _ _ _ _ _; refine Again_of (k + 1, _) ⟨rfl, by first | rfl | exact i64_next (by omega) | (simp_all <;> fail) | fail, trivial⟩ trivial (by first | (and_intros <;> first | rfl | trivial) | fail) (by first | (and_intros <;> first | rfl | trivial) | fail) rfl rfl rfl (by (try dsimp only); first | ((have hs := sum_drop HeldT.w hx; omega)) | fail) (show _ < _ by (try dsimp only); omega))
    | (show Go.Ab.CallA _ _ _ _ _ _ _; (by_cases hn : m - (HeldT.w x : Nat) < 0 <;> first | refine Call0 (pc_szneg (c_laws_szHeld x m hT.1.1 hT.1.2 (hok.2 x (List.mem_of_getElem? hx))) hn) rfl rfl ?_ | refine Call0 (pc_szpos (c_laws_szHeld x m hT.1.1 hT.1.2 (hok.2 x (List.mem_of_getElem? hx))) hn) rfl rfl ?_))
    | refine ix_map_at hx ?_
    | refine ix_map_at hy ?_
    | refine sl_pre (by omega) (fun _ => rfl) ?_
    | refine sl_suf (by omega) (fun _ => rfl) ?_
    | (refine ix_map2 hx (by omega) (by (try simp only [List.length_take]); omega) (fun y hy => ?_); try simp only [Int.toNat_natCast] at hy)
    | (refine ix_map (by omega) (by (try simp only [List.length_take]); omega) (fun x hx => ?_); try simp only [Int.toNat_natCast] at hx)
    | refine side_and (side_of (by first | (and_intros <;> first | exact Nat.le_of_ble_eq_true rfl | rfl | omega | (simp only [List.length_map, List.length_append, List.length_replicate, List.length_take, List.length_cons, List.length_nil, List.length_drop, List.length_set, markList_length, midL_len, mkL_length]; omega) | exact bytes_ok (Nat.le_of_ble_eq_true rfl) (by omega) (by simp only [List.length_map, List.length_append, List.length_replicate, List.length_take, List.length_cons, List.length_nil, List.length_drop, List.length_set, markList_length, midL_len, mkL_length]; omega) | exact bytes_okN (Nat.le_of_ble_eq_true rfl) (by simp only [List.length_map, List.length_append, List.length_replicate, List.length_take, List.length_cons, List.length_nil, List.length_drop, List.length_set, markList_length, midL_len, mkL_length]; omega)) | fail)) ?_
    | refine nilB_intro (fun h => ?_) ?_
    | refine side_and (side_of (show Go.Ab.structOk _ _ = true by kernel_rfl)) ?_
    | refine side_and (side_of (map_len (fun _ => rfl))) ?_
    | refine side_and (side_of (map_one (fun _ => rfl) _)) ?_
    | refine side_and ?_ ?_
    | refine LoadK_of rfl rfl ?_
    | refine LoadD_cel rfl rfl rfl rfl ?_
    | refine LoadD_of rfl ?_
    | refine StoreD_of rfl rfl rfl ?_
    | refine AppD_of rfl (by and_intros <;> first | rfl | decide) (by simp only [List.length_map, List.length_append, List.length_take, List.length_cons, List.length_nil]; first | (refine ⟨by omega, ?_⟩; refine Nat.le_trans (Nat.mul_le_mul_left _ (show _ ≤ 512 by decide)) ?_; omega) | fail) ?_
    | refine AppN_of rfl rfl (by and_intros <;> rfl) (by simp only [List.length_map, List.length_append, List.length_take, List.length_cons, List.length_nil]; first | (refine ⟨by omega, ?_⟩; refine Nat.le_trans (Nat.mul_le_mul_left _ (show _ ≤ 512 by decide)) ?_; omega) | fail) ?_
    | (show False; omega)
  all_goals
    conv => whnf
    refine OutA_plain rfl rfl ?_
    refine congrArg (AV.int .i64) ?_
    first
    | (have hs := sum_drop HeldT.w hx; exact szN_neg (by omega))
    | (have hs := sum_end HeldT.w (xs := xs) (k := k) (by omega); exact szN_pos (by omega) (by omega))
    | (have hs : wL HeldT.w xs = xs.length + (xs.map HeldT.w).sum := rfl; simp only [i64_wrap_eq] at *; exact szN_neg (by omega))
theorem c_laws_toHeldS (xs : List HeldT) (hw : wL HeldT.w xs ≤ 1048576) : PC Tryz.prog false 126 [.sl (xs.map HeldT.cells)] (.own 0) [⟨.deep HeldT.shp, 127, 5, xs.map HeldT.cells⟩] := by
  have hl : xs.length ≤ 1048576 := Nat.le_trans wL_len hw
  refine pc_at Tryz.func126 rfl (by kernel_rfl) 23 [.tmp 2] rfl rfl ?_
  repeat' (conv => whnf); first
    | refine nameB_true ?_
    | refine nameB_false ?_
    | refine nameB_yes (by assumption) ?_
    | refine nameB_no (by assumption) ?_
    | refine nameB_dyes (by assumption) ?_
    | refine nameB_dno (by assumption) ?_
    | (refine nameB_dec (fun h => ?_) (fun h => ?_) <;> try simp only [List.length_map, List.length_take, List.length_append, List.length_drop, List.length_set, markList_length, midL_len, mkL_length, Int.toNat_natCast, fact_byte] at h)
    | (refine nameB_cases (fun h => ?_) (fun h => ?_) <;> try simp only [bne_iff_ne, ne_eq, bne_eq_false_iff_eq, beq_iff_eq, beq_eq_false_iff_ne, Bool.not_eq_true', Bool.not_eq_false', Bool.or_eq_true, Bool.or_eq_false_iff, List.length_map, List.length_take, List.length_append, List.length_drop, List.length_set, markList_length, midL_len, mkL_length, Int.toNat_natCast, fact_byte] at h)
    | refine splitB_true ?_
    | refine splitB_false ?_
    | (refine splitB_intro (fun h => ?_) (fun h => ?_) <;> subst h)
    | refine draw_text (by kernel_rfl) (by kernel_rfl) (by kernel_rfl) ?_
    | refine both_intro ?_ ?_
    | exact True.intro
    | (show Go.Ab.Loop _ _ _; (refine Loop_prom [(4128, HeldT.shp)] ⟨⟨_, _, _, rfl, by first | exact prom_nil | exact prom_rep rfl | exact prom_map (fun _ => rfl) | exact prom_one rfl⟩, trivial⟩ ?_; refine Loop_at [0, 3] [] (Nat) (fun k => True ∧ k ≤ xs.length) (fun k => [(4, .int .i64 (k : Nat))]) (fun k => [(4128, ⟨.deep HeldT.shp, 127, 5, (xs.take k).map HeldT.cells ++ List.replicate (xs.length - k) [.int .i64 0, .int .i64 0, .int .i64 0, .nil, .nil]⟩)]) (fun k => xs.length - k) 0 ⟨by first | (simp_all <;> fail) | rfl | fail, trivial⟩ ⟨by first | rfl | exact congrArg (fun e => some (AObj.mk _ _ _ e)) (set_rep hx) | exact congrArg (fun e => some (AObj.mk _ _ _ e)) start_rep | fail | fail, trivial⟩ (by (try dsimp only); first | trivial | (refine ⟨?_, by omega⟩; simp <;> fail) | (simp <;> fail) | fail) ?_; (conv => whnf); refine side_and (side_of (by first | exact fun k => rfl | exact fun k => by simp [headOk, closedE, closedO, closedL, AV.closed, hcap.closed, hasId])) ?_; rintro k hT; try dsimp only at hT))
    | (show Go.Ab.Again _ _ _ _ _ _ _ _ _ _ _; refine Again_of (k + 1) ⟨by first | rfl | exact i64_next (by omega) | (simp_all <;> fail) | fail, trivial⟩ ⟨by first | rfl | exact congrArg (fun e => some (AObj.mk _ _ _ e)) (set_rep hx) | exact congrArg (fun e => some (AObj.mk _ _ _ e)) start_rep | fail | fail, trivial⟩ (by first | (and_intros <;> first | rfl | trivial) | fail) (by first | (and_intros <;> first | rfl | trivial) | fail) rfl rfl rfl (by (try dsimp only); first | (exact ⟨trivial, by omega⟩) | fail) (show _ < _ by (try dsimp only); omega))
    | (show Go.Ab.CallA _ _ _ _ _ _ _; refine CallF (c_laws_toHeld x (Nat.le_trans (wL_mem (List.mem_of_getElem? hx)).2 hw)) rfl rfl rfl (Nat.le_of_ble_eq_true rfl) ?_)
    | refine ix_map_at hx ?_
    | refine ix_map_at hy ?_
    | refine sl_pre (by omega) (fun _ => rfl) ?_
    | refine sl_suf (by omega) (fun _ => rfl) ?_
    | (refine ix_map2 hx (by omega) (by (try simp only [List.length_take]); omega) (fun y hy => ?_); try simp only [Int.toNat_natCast] at hy)
    | (refine ix_map (by omega) (by (try simp only [List.length_take]); omega) (fun x hx => ?_); try simp only [Int.toNat_natCast] at hx)
    | refine side_and (side_of (by first | (and_intros <;> first | exact Nat.le_of_ble_eq_true rfl | rfl | omega | (simp only [List.length_map, List.length_append, List.length_replicate, List.length_take, List.length_cons, List.length_nil, List.length_drop, List.length_set, markList_length, midL_len, mkL_length]; omega) | exact bytes_ok (Nat.le_of_ble_eq_true rfl) (by omega) (by simp only [List.length_map, List.length_append, List.length_replicate, List.length_take, List.length_cons, List.length_nil, List.length_drop, List.length_set, markList_length, midL_len, mkL_length]; omega) | exact bytes_okN (Nat.le_of_ble_eq_true rfl) (by simp only [List.length_map, List.length_append, List.length_replicate, List.length_take, List.length_cons, List.length_nil, List.length_drop, List.length_set, markList_length, midL_len, mkL_length]; omega)) | fail)) ?_
    | refine nilB_intro (fun h => ?_) ?_
    | refine side_and (side_of (show Go.Ab.structOk _ _ = true by kernel_rfl)) ?_
    | refine side_and (side_of (map_len (fun _ => rfl))) ?_
    | refine side_and (side_of (map_one (fun _ => rfl) _)) ?_
    | refine side_and ?_ ?_
    | refine LoadK_of rfl rfl ?_
    | refine LoadD_cel rfl rfl rfl rfl ?_
    | refine LoadD_of rfl ?_
    | refine StoreD_of rfl rfl rfl ?_
    | refine AppD_of rfl (by and_intros <;> first | rfl | decide) (by simp only [List.length_map, List.length_append, List.length_take, List.length_cons, List.length_nil]; first | (refine ⟨by omega, ?_⟩; refine Nat.le_trans (Nat.mul_le_mul_left _ (show _ ≤ 512 by decide)) ?_; omega) | fail) ?_
    | refine AppN_of rfl rfl (by and_intros <;> rfl) (by simp only [List.length_map, List.length_append, List.length_take, List.length_cons, List.length_nil]; first | (refine ⟨by omega, ?_⟩; refine Nat.le_trans (Nat.mul_le_mul_left _ (show _ ≤ 512 by decide)) ?_; omega) | fail) ?_
    | refine ix_rep (by simp; omega) (by omega) ?_
    | (show False; omega)
  all_goals
    conv => whnf
    exact OutA_deep rfl rfl rfl ⟨⟨congrArg (fun e => some (AObj.mk _ _ _ e)) (full_rep (by omega)), rfl⟩, trivial⟩ rfl
theorem c_laws_eqHeldS (xs ys : List HeldT) (hok : (okL HeldT.ok) xs) : PC Tryz.prog false 133 [.sl (xs.map HeldT.cells), .sl (ys.map HeldT.cells)] (.bool (decide (xs = ys))) [] := by
  have hl := hok.1
  refine pc_at Tryz.func133 rfl (by kernel_rfl) 27 [.tmp 4] rfl rfl ?_
  repeat' (conv => whnf); first
    | refine nameB_true ?_
    | refine nameB_false ?_
    | refine nameB_yes (by assumption) ?_
    | refine nameB_no (by assumption) ?_
    | refine nameB_dyes (by assumption) ?_
    | refine nameB_dno (by assumption) ?_
    | (refine nameB_dec (fun h => ?_) (fun h => ?_) <;> try simp only [List.length_map, List.length_take, List.length_append, List.length_drop, List.length_set, markList_length, midL_len, mkL_length, Int.toNat_natCast, fact_byte] at h)
    | (refine nameB_cases (fun h => ?_) (fun h => ?_) <;> try simp only [bne_iff_ne, ne_eq, bne_eq_false_iff_eq, beq_iff_eq, beq_eq_false_iff_ne, Bool.not_eq_true', Bool.not_eq_false', Bool.or_eq_true, Bool.or_eq_false_iff, List.length_map, List.length_take, List.length_append, List.length_drop, List.length_set, markList_length, midL_len, mkL_length, Int.toNat_natCast, fact_byte] at h)
    | refine splitB_true ?_
    | refine splitB_false ?_
    | (refine splitB_intro (fun h => ?_) (fun h => ?_) <;> subst h)
    | refine draw_text (by kernel_rfl) (by kernel_rfl) (by kernel_rfl) ?_
    | refine both_intro ?_ ?_
    | exact True.intro
    | (show Go.Ab.Loop _ _ _; (refine Loop_at [0, 1] [] (Nat) (fun k => xs.take k = ys.take k ∧ k ≤ xs.length) (fun k => [(5, .int .i64 (k : Nat))]) (fun k => []) (fun k => xs.length - k) 0 ⟨by first | (simp_all <;> fail) | rfl | fail, trivial⟩ trivial (by (try dsimp only); first | trivial | (refine ⟨?_, by omega⟩; simp <;> fail) | (simp <;> fail) | fail) ?_; (conv => whnf); refine side_and (side_of (by first | exact fun k => rfl | exact fun k => by simp [headOk, closedE, closedO, closedL, AV.closed, hcap.closed, hasId])) ?_; rintro k hT; try dsimp only at hT))
    | (show Go.Ab.Again _ _ _ _ _ _ _ _ _ _ _; refine Again_of (k + 1) ⟨by first | rfl | exact i64_next (by omega) | (simp_all <;> fail) | fail, trivial⟩ trivial (by first | (and_intros <;> first | rfl | trivial) | fail) (by first | (and_intros <;> first | rfl | trivial) | fail) rfl rfl rfl (by (try dsimp only); first | (exact ⟨take_next hT.1 hx hy (by assumption), by omega⟩) | fail) (show _ < _ by (try dsimp only); omega))
    | (show Go.Ab.CallA _ _ _ _ _ _ _; refine Call0 (c_laws_eqHeld x y (hok.2 x (List.mem_of_getElem? hx))) rfl rfl ?_)
    | (show Go.Ab.CallD _ _ _ _ _ _ _; refine CallD0 (c_laws_eqHeld x y (hok.2 x (List.mem_of_getElem? hx))) rfl rfl rfl ?_)
    | refine ix_map_at hx ?_
    | refine ix_map_at hy ?_
    | refine sl_pre (by omega) (fun _ => rfl) ?_
    | refine sl_suf (by omega) (fun _ => rfl) ?_
    | (refine ix_map2 hx (by omega) (by (try simp only [List.length_take]); omega) (fun y hy => ?_); try simp only [Int.toNat_natCast] at hy)
    | (refine ix_map (by omega) (by (try simp only [List.length_take]); omega) (fun x hx => ?_); try simp only [Int.toNat_natCast] at hx)
    | refine side_and (side_of (by first | (and_intros <;> first | exact Nat.le_of_ble_eq_true rfl | rfl | omega | (simp only [List.length_map, List.length_append, List.length_replicate, List.length_take, List.length_cons, List.length_nil, List.length_drop, List.length_set, markList_length, midL_len, mkL_length]; omega) | exact bytes_ok (Nat.le_of_ble_eq_true rfl) (by omega) (by simp only [List.length_map, List.length_append, List.length_replicate, List.length_take, List.length_cons, List.length_nil, List.length_drop, List.length_set, markList_length, midL_len, mkL_length]; omega) | exact bytes_okN (Nat.le_of_ble_eq_true rfl) (by simp only [List.length_map, List.length_append, List.length_replicate, List.length_take, List.length_cons, List.length_nil, List.length_drop, List.length_set, markList_length, midL_len, mkL_length]; omega)) | fail)) ?_
    | refine nilB_intro (fun h => ?_) ?_
    | refine side_and (side_of (show Go.Ab.structOk _ _ = true by kernel_rfl)) ?_
    | refine side_and (side_of (map_len (fun _ => rfl))) ?_
    | refine side_and (side_of (map_one (fun _ => rfl) _)) ?_
    | refine side_and ?_ ?_
    | refine LoadK_of rfl rfl ?_
    | refine LoadD_cel rfl rfl rfl rfl ?_
    | refine LoadD_of rfl ?_
    | refine StoreD_of rfl rfl rfl ?_
    | refine AppD_of rfl (by and_intros <;> first | rfl | decide) (by simp only [List.length_map, List.length_append, List.length_take, List.length_cons, List.length_nil]; first | (refine ⟨by omega, ?_⟩; refine Nat.le_trans (Nat.mul_le_mul_left _ (show _ ≤ 512 by decide)) ?_; omega) | fail) ?_
    | refine AppN_of rfl rfl (by and_intros <;> rfl) (by simp only [List.length_map, List.length_append, List.length_take, List.length_cons, List.length_nil]; first | (refine ⟨by omega, ?_⟩; refine Nat.le_trans (Nat.mul_le_mul_left _ (show _ ≤ 512 by decide)) ?_; omega) | fail) ?_
    | (show False; omega)
  all_goals
    conv => whnf
    refine OutA_plain rfl rfl ?_
    first
    | exact bool_no (len_ne (by omega))
    | exact bool_no (get_ne hx hy (by assumption))
    | exact bool_yes (take_all_eq hT.1 (by omega) (by omega))
theorem m_laws_markHeldS (xs : List HeldT) (k : Int) (h0 : 0 ≤ k) (h1 : k + (cntL HeldT.cnt xs : Int) ≤ 1152921504606846976) (hl : xs.length ≤ 1152921504606846976) : MC Tryz.prog 162 false [.sl (xs.map HeldT.cells)] [.sl 127 5 HeldT.shp] k [.sl ((mkL HeldT.mkM HeldT.cnt xs k).map HeldT.cells)] (k + (cntL HeldT.cnt xs : Int)) := by
  refine mc_of Tryz.func162 rfl (by kernel_rfl) 48 [.tmp 4] [.own 0] rfl rfl (fun e => by first | rfl | cases e) rfl rfl ?_
  repeat' (conv => whnf); first
    | refine nameB_self (b := (_ == _)) ?_
    | (show Go.Ab.StoreD _ _ _ 0 _ _ _ _ _; refine StoreD_cut (off := 0) [(0, .own 0), (1, .int .i64 ((k + (cntL HeldT.cnt (xs.take i) : Int)))), (5, .int .i64 (i : Nat))] [(0, ⟨.deep HeldT.shp, 127, 5, (((midL HeldT.mkM HeldT.cnt xs k i).map HeldT.cells).set i [.int .i64 ((k + (cntL HeldT.cnt (xs.take i) : Int))), .int .i64 x.Time, .int .i64 x.Lead, .sl (x.Reads.map strC), .sl (x.Writes.map WriteT.cells)])⟩)] rfl rfl ⟨rfl, (by first | rfl | exact congrArg (AV.int IntKind.i64) (by first | (have hle := cntL_le (cnt := HeldT.cnt) hx; have hcx : HeldT.cnt x = 1 + 1 + 1 + cntL cnt1 x.Reads + cntL WriteT.cnt x.Writes := rfl; first | (simp (disch := omega) only [i64w] <;> fail) | (simp (disch := omega) only [i64w]; omega)) | fail) | fail), rfl, trivial⟩ rfl ⟨congrArg (fun l => some (AObj.mk _ _ _ l)) (by first | (have hle := cntL_le (cnt := HeldT.cnt) hx; have hcx : HeldT.cnt x = 1 + 1 + 1 + cntL cnt1 x.Reads + cntL WriteT.cnt x.Writes := rfl; (try simp only [List.set_set, Int.toNat_natCast]); refine congrArg (List.set _ _) ?_; ((repeat' refine cells_eq ?_ ?_) <;> first | rfl | (refine congrArg (AV.int IntKind.i64) ?_; simp (disch := omega) only [i64w]; first | done | rfl) | (refine congrArg AV.str (congrArg mText ?_); simp (disch := omega) only [i64w]; first | done | rfl) | (refine congrArg AV.bool ?_; simp (disch := omega) only [i64w]; first | done | rfl) | (refine congrArg AV.sl ?_; simp (disch := omega) only [i64w]; first | done | rfl))) | fail), trivial⟩ rfl rfl ⟨rfl, by simp⟩ ?_)
    | (show Go.Ab.StoreD _ _ _ 1 _ _ _ _ _; refine StoreD_cut (off := 1) [(0, .own 0), (1, .int .i64 ((k + (cntL HeldT.cnt (xs.take i) : Int)) + 1)), (5, .int .i64 (i : Nat))] [(0, ⟨.deep HeldT.shp, 127, 5, (((midL HeldT.mkM HeldT.cnt xs k i).map HeldT.cells).set i [.int .i64 ((k + (cntL HeldT.cnt (xs.take i) : Int))), .int .i64 ((k + (cntL HeldT.cnt (xs.take i) : Int)) + 1), .int .i64 x.Lead, .sl (x.Reads.map strC), .sl (x.Writes.map WriteT.cells)])⟩)] rfl rfl ⟨rfl, (by first | rfl | exact congrArg (AV.int IntKind.i64) (by first | (have hle := cntL_le (cnt := HeldT.cnt) hx; have hcx : HeldT.cnt x = 1 + 1 + 1 + cntL cnt1 x.Reads + cntL WriteT.cnt x.Writes := rfl; first | (simp (disch := omega) only [i64w] <;> fail) | (simp (disch := omega) only [i64w]; omega)) | fail) | fail), rfl, trivial⟩ rfl ⟨congrArg (fun l => some (AObj.mk _ _ _ l)) (by first | (have hle := cntL_le (cnt := HeldT.cnt) hx; have hcx : HeldT.cnt x = 1 + 1 + 1 + cntL cnt1 x.Reads + cntL WriteT.cnt x.Writes := rfl; (try simp only [List.set_set, Int.toNat_natCast]); refine congrArg (List.set _ _) ?_; ((repeat' refine cells_eq ?_ ?_) <;> first | rfl | (refine congrArg (AV.int IntKind.i64) ?_; simp (disch := omega) only [i64w]; first | done | rfl) | (refine congrArg AV.str (congrArg mText ?_); simp (disch := omega) only [i64w]; first | done | rfl) | (refine congrArg AV.bool ?_; simp (disch := omega) only [i64w]; first | done | rfl) | (refine congrArg AV.sl ?_; simp (disch := omega) only [i64w]; first | done | rfl))) | fail), trivial⟩ rfl rfl ⟨rfl, by simp⟩ ?_)
    | (show Go.Ab.StoreD _ _ _ 2 _ _ _ _ _; refine StoreD_cut (off := 2) [(0, .own 0), (1, .int .i64 ((k + (cntL HeldT.cnt (xs.take i) : Int)) + 1 + 1)), (5, .int .i64 (i : Nat))] [(0, ⟨.deep HeldT.shp, 127, 5, (((midL HeldT.mkM HeldT.cnt xs k i).map HeldT.cells).set i [.int .i64 ((k + (cntL HeldT.cnt (xs.take i) : Int))), .int .i64 ((k + (cntL HeldT.cnt (xs.take i) : Int)) + 1), .int .i64 ((k + (cntL HeldT.cnt (xs.take i) : Int)) + 1 + 1), .sl (x.Reads.map strC), .sl (x.Writes.map WriteT.cells)])⟩)] rfl rfl ⟨rfl, (by first | rfl | exact congrArg (AV.int IntKind.i64) (by first | (have hle := cntL_le (cnt := HeldT.cnt) hx; have hcx : HeldT.cnt x = 1 + 1 + 1 + cntL cnt1 x.Reads + cntL WriteT.cnt x.Writes := rfl; first | (simp (disch := omega) only [i64w] <;> fail) | (simp (disch := omega) only [i64w]; omega)) | fail) | fail), rfl, trivial⟩ rfl ⟨congrArg (fun l => some (AObj.mk _ _ _ l)) (by first | (have hle := cntL_le (cnt := HeldT.cnt) hx; have hcx : HeldT.cnt x = 1 + 1 + 1 + cntL cnt1 x.Reads + cntL WriteT.cnt x.Writes := rfl; (try simp only [List.set_set, Int.toNat_natCast]); refine congrArg (List.set _ _) ?_; ((repeat' refine cells_eq ?_ ?_) <;> first | rfl | (refine congrArg (AV.int IntKind.i64) ?_; simp (disch := omega) only [i64w]; first | done | rfl) | (refine congrArg AV.str (congrArg mText ?_); simp (disch := omega) only [i64w]; first | done | rfl) | (refine congrArg AV.bool ?_; simp (disch := omega) only [i64w]; first | done | rfl) | (refine congrArg AV.sl ?_; simp (disch := omega) only [i64w]; first | done | rfl))) | fail), trivial⟩ rfl rfl ⟨rfl, by simp⟩ ?_)
    | refine nameB_true ?_
    | refine nameB_false ?_
    | refine nameB_yes (by assumption) ?_
    | refine nameB_no (by assumption) ?_
    | refine nameB_dyes (by assumption) ?_
    | refine nameB_dno (by assumption) ?_
    | (refine nameB_dec (fun h => ?_) (fun h => ?_) <;> try simp only [List.length_map, List.length_take, List.length_append, List.length_drop, List.length_set, markList_length, midL_len, mkL_length, Int.toNat_natCast, fact_byte] at h)
    | (refine nameB_cases (fun h => ?_) (fun h => ?_) <;> try simp only [bne_iff_ne, ne_eq, bne_eq_false_iff_eq, beq_iff_eq, beq_eq_false_iff_ne, Bool.not_eq_true', Bool.not_eq_false', Bool.or_eq_true, Bool.or_eq_false_iff, List.length_map, List.length_take, List.length_append, List.length_drop, List.length_set, markList_length, midL_len, mkL_length, Int.toNat_natCast, fact_byte] at h)
    | refine splitB_true ?_
    | refine splitB_false ?_
    | (refine splitB_intro (fun h => ?_) (fun h => ?_) <;> subst h)
    | refine draw_text (by kernel_rfl) (by kernel_rfl) (by kernel_rfl) ?_
    | refine both_intro ?_ ?_
    | exact True.intro
    | (show Go.Ab.Loop _ _ _; (refine Loop_at [0] [] (Nat) (fun i => i ≤ xs.length) (fun i => [(1, .int .i64 (k + (cntL HeldT.cnt (xs.take i) : Int))), (5, .int .i64 (i : Nat))]) (fun i => [(0, ⟨.deep HeldT.shp, 127, 5, (midL HeldT.mkM HeldT.cnt xs k i).map HeldT.cells⟩)]) (fun i => xs.length - i) 0 ⟨by first | first | exact cnt0_eq | exact congrArg (AV.int IntKind.i64) (by first | (have hle := cntL_le (cnt := HeldT.cnt) hx; have hcx : HeldT.cnt x = 1 + 1 + 1 + cntL cnt1 x.Reads + cntL WriteT.cnt x.Writes := rfl; rw [cntL_take hx]; (try simp (disch := omega) only [i64w]); omega) | fail) | rfl | fail, by first | first | exact cnt0_eq | exact congrArg (AV.int IntKind.i64) (by first | (have hle := cntL_le (cnt := HeldT.cnt) hx; have hcx : HeldT.cnt x = 1 + 1 + 1 + cntL cnt1 x.Reads + cntL WriteT.cnt x.Writes := rfl; rw [cntL_take hx]; (try simp (disch := omega) only [i64w]); omega) | fail) | rfl | fail, trivial⟩ ⟨by first | rfl | first | exact congrArg (fun e => some (AObj.mk _ _ _ e)) (congrArg (List.map HeldT.cells) midL_zero.symm) | exact congrArg (fun e => some (AObj.mk _ _ _ e)) (by first | (refine midL_next hx ?_; rfl) | fail) | fail | fail, trivial⟩ (by (try dsimp only); first | (exact Nat.zero_le _) | fail) ?_; (conv => whnf); refine side_and (side_of (by first | exact fun i => rfl | exact fun i => by simp [headOk, closedE, closedO, closedL, AV.closed, hcap.closed, hasId])) ?_; rintro i hM; try dsimp only at hM))
    | (show Go.Ab.Again _ _ _ _ _ _ _ _ _ _ _; refine Again_of (i + 1) ⟨by first | first | exact cnt0_eq | exact congrArg (AV.int IntKind.i64) (by first | (have hle := cntL_le (cnt := HeldT.cnt) hx; have hcx : HeldT.cnt x = 1 + 1 + 1 + cntL cnt1 x.Reads + cntL WriteT.cnt x.Writes := rfl; rw [cntL_take hx]; (try simp (disch := omega) only [i64w]); omega) | fail) | rfl | fail, by first | rfl | exact i64_next (by omega) | first | exact cnt0_eq | exact congrArg (AV.int IntKind.i64) (by first | (have hle := cntL_le (cnt := HeldT.cnt) hx; have hcx : HeldT.cnt x = 1 + 1 + 1 + cntL cnt1 x.Reads + cntL WriteT.cnt x.Writes := rfl; rw [cntL_take hx]; (try simp (disch := omega) only [i64w]); omega) | fail) | fail, trivial⟩ ⟨by first | rfl | first | exact congrArg (fun e => some (AObj.mk _ _ _ e)) (congrArg (List.map HeldT.cells) midL_zero.symm) | exact congrArg (fun e => some (AObj.mk _ _ _ e)) (by first | (refine midL_next hx ?_; rfl) | fail) | fail | fail, trivial⟩ (by first | (and_intros <;> first | rfl | trivial) | fail) (by first | (and_intros <;> first | rfl | trivial) | fail) rfl rfl rfl (by (try dsimp only); first | ((show i + 1 ≤ _; omega)) | fail) (show _ < _ by (try dsimp only); omega))
    | (show Go.Ab.CallA _ _ _ _ _ _ _; first
        | (show Go.Ab.CallA _ _ [_, _] _ _ _ _; refine CallMc_cut (off := 3) (es2 := (((midL HeldT.mkM HeldT.cnt xs k i).map HeldT.cells).set i [.int .i64 ((k + (cntL HeldT.cnt (xs.take i) : Int))), .int .i64 ((k + (cntL HeldT.cnt (xs.take i) : Int)) + 1), .int .i64 ((k + (cntL HeldT.cnt (xs.take i) : Int)) + 1 + 1), .sl ((mkL mkStr cnt1 x.Reads ((k + (cntL HeldT.cnt (xs.take i) : Int)) + 1 + 1 + 1)).map strC), .sl (x.Writes.map WriteT.cells)])) (k := (k + (cntL HeldT.cnt (xs.take i) : Int)) + 1 + 1 + 1) (k' := (k + (cntL HeldT.cnt (xs.take i) : Int)) + 1 + 1 + 1 + (cntL cnt1 x.Reads : Int)) [(0, .own 0), (5, .int .i64 (i : Nat))] (by first | rfl | (have hle := cntL_le (cnt := HeldT.cnt) hx; have hcx : HeldT.cnt x = 1 + 1 + 1 + cntL cnt1 x.Reads + cntL WriteT.cnt x.Writes := rfl; first | (simp (disch := omega) only [i64w] <;> fail) | (simp (disch := omega) only [i64w]; omega)) | fail) (m_laws_markStringS x.Reads ((k + (cntL HeldT.cnt (xs.take i) : Int)) + 1 + 1 + 1) (by first | (have hle := cntL_le (cnt := HeldT.cnt) hx; have hcx : HeldT.cnt x = 1 + 1 + 1 + cntL cnt1 x.Reads + cntL WriteT.cnt x.Writes := rfl; first | omega | (simp (disch := omega) only [i64w]; omega)) | fail) (by first | (have hle := cntL_le (cnt := HeldT.cnt) hx; have hcx : HeldT.cnt x = 1 + 1 + 1 + cntL cnt1 x.Reads + cntL WriteT.cnt x.Writes := rfl; first | omega | (simp (disch := omega) only [i64w]; omega)) | fail) (by first | (have hle := cntL_le (cnt := HeldT.cnt) hx; have hcx : HeldT.cnt x = 1 + 1 + 1 + cntL cnt1 x.Reads + cntL WriteT.cnt x.Writes := rfl; have hll := cntL_len_leaf x.Reads; omega) | fail)) (by rfl) (by first | exact mid_at hx | (refine setN_at ?_; simp only [List.length_set, List.length_map, midL_len]; omega) | fail) (by rfl) ⟨rfl, rfl, trivial⟩ rfl (by first | (have hle := cntL_le (cnt := HeldT.cnt) hx; have hcx : HeldT.cnt x = 1 + 1 + 1 + cntL cnt1 x.Reads + cntL WriteT.cnt x.Writes := rfl; (try simp only [List.set_set, Int.toNat_natCast]); refine congrArg (List.set _ _) ?_; ((repeat' refine cells_eq ?_ ?_) <;> first | rfl | (refine congrArg (AV.int IntKind.i64) ?_; simp (disch := omega) only [i64w]; first | done | rfl) | (refine congrArg AV.str (congrArg mText ?_); simp (disch := omega) only [i64w]; first | done | rfl) | (refine congrArg AV.bool ?_; simp (disch := omega) only [i64w]; first | done | rfl) | (refine congrArg AV.sl ?_; simp (disch := omega) only [i64w]; first | done | rfl))) | fail) rfl rfl ?_)
        | (show Go.Ab.CallA _ _ [_, _] _ _ _ _; refine CallMc_cut (off := 4) (es2 := (((midL HeldT.mkM HeldT.cnt xs k i).map HeldT.cells).set i [.int .i64 ((k + (cntL HeldT.cnt (xs.take i) : Int))), .int .i64 ((k + (cntL HeldT.cnt (xs.take i) : Int)) + 1), .int .i64 ((k + (cntL HeldT.cnt (xs.take i) : Int)) + 1 + 1), .sl ((mkL mkStr cnt1 x.Reads ((k + (cntL HeldT.cnt (xs.take i) : Int)) + 1 + 1 + 1)).map strC), .sl ((mkL WriteT.mkM WriteT.cnt x.Writes ((k + (cntL HeldT.cnt (xs.take i) : Int)) + 1 + 1 + 1 + (cntL cnt1 x.Reads : Int))).map WriteT.cells)])) (k := (k + (cntL HeldT.cnt (xs.take i) : Int)) + 1 + 1 + 1 + (cntL cnt1 x.Reads : Int)) (k' := (k + (cntL HeldT.cnt (xs.take i) : Int)) + 1 + 1 + 1 + (cntL cnt1 x.Reads : Int) + (cntL WriteT.cnt x.Writes : Int)) [(0, .own 0), (5, .int .i64 (i : Nat))] (by first | rfl | (have hle := cntL_le (cnt := HeldT.cnt) hx; have hcx : HeldT.cnt x = 1 + 1 + 1 + cntL cnt1 x.Reads + cntL WriteT.cnt x.Writes := rfl; first | (simp (disch := omega) only [i64w] <;> fail) | (simp (disch := omega) only [i64w]; omega)) | fail) (m_laws_markWriteS x.Writes ((k + (cntL HeldT.cnt (xs.take i) : Int)) + 1 + 1 + 1 + (cntL cnt1 x.Reads : Int)) (by first | (have hle := cntL_le (cnt := HeldT.cnt) hx; have hcx : HeldT.cnt x = 1 + 1 + 1 + cntL cnt1 x.Reads + cntL WriteT.cnt x.Writes := rfl; first | omega | (simp (disch := omega) only [i64w]; omega)) | fail) (by first | (have hle := cntL_le (cnt := HeldT.cnt) hx; have hcx : HeldT.cnt x = 1 + 1 + 1 + cntL cnt1 x.Reads + cntL WriteT.cnt x.Writes := rfl; first | omega | (simp (disch := omega) only [i64w]; omega)) | fail) (by first | (have hle := cntL_le (cnt := HeldT.cnt) hx; have hcx : HeldT.cnt x = 1 + 1 + 1 + cntL cnt1 x.Reads + cntL WriteT.cnt x.Writes := rfl; have hll := cntL_len_Write x.Writes; omega) | fail)) (by rfl) (by first | exact mid_at hx | (refine setN_at ?_; simp only [List.length_set, List.length_map, midL_len]; omega) | fail) (by rfl) ⟨rfl, rfl, trivial⟩ rfl (by first | (have hle := cntL_le (cnt := HeldT.cnt) hx; have hcx : HeldT.cnt x = 1 + 1 + 1 + cntL cnt1 x.Reads + cntL WriteT.cnt x.Writes := rfl; (try simp only [List.set_set, Int.toNat_natCast]); refine congrArg (List.set _ _) ?_; ((repeat' refine cells_eq ?_ ?_) <;> first | rfl | (refine congrArg (AV.int IntKind.i64) ?_; simp (disch := omega) only [i64w]; first | done | rfl) | (refine congrArg AV.str (congrArg mText ?_); simp (disch := omega) only [i64w]; first | done | rfl) | (refine congrArg AV.bool ?_; simp (disch := omega) only [i64w]; first | done | rfl) | (refine congrArg AV.sl ?_; simp (disch := omega) only [i64w]; first | done | rfl))) | fail) rfl rfl ?_))
    | refine ix_map_at hx ?_
    | refine ix_map_at hy ?_
    | refine sl_pre (by omega) (fun _ => rfl) ?_
    | refine sl_suf (by omega) (fun _ => rfl) ?_
    | (refine ix_map2 hx (by omega) (by (try simp only [List.length_take]); omega) (fun y hy => ?_); try simp only [Int.toNat_natCast] at hy)
    | (refine ix_map (by omega) (by (try simp only [List.length_take]); omega) (fun x hx => ?_); try simp only [Int.toNat_natCast] at hx)
    | refine side_and (side_of (by first | (and_intros <;> first | exact Nat.le_of_ble_eq_true rfl | rfl | omega | (simp only [List.length_map, List.length_append, List.length_replicate, List.length_take, List.length_cons, List.length_nil, List.length_drop, List.length_set, markList_length, midL_len, mkL_length]; omega) | exact bytes_ok (Nat.le_of_ble_eq_true rfl) (by omega) (by simp only [List.length_map, List.length_append, List.length_replicate, List.length_take, List.length_cons, List.length_nil, List.length_drop, List.length_set, markList_length, midL_len, mkL_length]; omega) | exact bytes_okN (Nat.le_of_ble_eq_true rfl) (by simp only [List.length_map, List.length_append, List.length_replicate, List.length_take, List.length_cons, List.length_nil, List.length_drop, List.length_set, markList_length, midL_len, mkL_length]; omega)) | fail)) ?_
    | refine nilB_intro (fun h => ?_) ?_
    | refine side_and (side_of (show Go.Ab.structOk _ _ = true by kernel_rfl)) ?_
    | refine side_and (side_of (map_len (fun _ => rfl))) ?_
    | refine side_and (side_of (map_one (fun _ => rfl) _)) ?_
    | refine side_and ?_ ?_
    | refine LoadK_of rfl rfl ?_
    | refine LoadD_cel rfl rfl rfl rfl ?_
    | refine LoadD_of rfl ?_
    | refine StoreD_of rfl rfl rfl ?_
    | refine AppD_of rfl (by and_intros <;> first | rfl | decide) (by simp only [List.length_map, List.length_append, List.length_take, List.length_cons, List.length_nil]; first | (refine ⟨by omega, ?_⟩; refine Nat.le_trans (Nat.mul_le_mul_left _ (show _ ≤ 512 by decide)) ?_; omega) | fail) ?_
    | refine AppN_of rfl rfl (by and_intros <;> rfl) (by simp only [List.length_map, List.length_append, List.length_take, List.length_cons, List.length_nil]; first | (refine ⟨by omega, ?_⟩; refine Nat.le_trans (Nat.mul_le_mul_left _ (show _ ≤ 512 by decide)) ?_; omega) | fail) ?_
    | refine ix_setN (by simp only [List.length_set, List.length_map, midL_len]; omega) ?_
    | refine ix_mid (by omega) (fun x hx => ?_)
    | (show False; omega)
  all_goals
    conv => whnf
    refine OutM_of (by rfl) (by rfl) (by rfl) ?_ ?_
    · exact congrArg (fun n : Nat => AV.int .i64 (k + (n : Int))) (cntL_end (by omega))
    · exact congrArg (fun l => [AV.sl (List.map HeldT.cells l)]) (midL_end (by omega))
structure ToldT where
  Txn : Int
  Yes : Bool
  Time : Int
deriving DecidableEq
def ToldT.cells (x : ToldT) : List AV := [.int .i64 x.Txn, .bool x.Yes, .int .i64 x.Time]
def ToldT.ok (x : ToldT) : Prop := okT x.Txn ∧ okT x.Yes ∧ okT x.Time
theorem ToldT.same {x y : ToldT} (hTxn : x.Txn = y.Txn) (hYes : x.Yes = y.Yes) (hTime : x.Time = y.Time) : x = y := by cases x; cases y; simp_all
theorem open_Told : ∀ n cs, Sh Tryz.prog n 282 cs → ∃ x : ToldT, cs = ToldT.cells x ∧ ToldT.ok x := by
  intro n cs h
  cases n with
  | zero => unfold Sh at h; exact h.elim
  | succ n =>
    unfold Sh at h
    rw [Tryz.underlying282] at h
    simp only [ShL] at h
    obtain ⟨y0, z0, rfl, g0, y1, z1, rfl, g1, y2, z2, rfl, g2, rfl⟩ := h
    obtain ⟨x0, rfl, o0⟩ := open_int Tryz.underlying3 _ _ g0
    obtain ⟨x1, rfl, o1⟩ := open_bool Tryz.underlying4 _ _ g1
    obtain ⟨x2, rfl, o2⟩ := open_int Tryz.underlying3 _ _ g2
    exact ⟨⟨x0, x1, x2⟩, rfl, o0, o1, o2⟩
def ToldT.shp : List Shp := [.leaf, .leaf, .leaf]
def ToldT.mkM (x : ToldT) (k : Int) : ToldT := ⟨k, ((k + 1).tmod 3 == 0), k + 1 + 1⟩
def ToldT.cnt (x : ToldT) : Nat := 1 + 1 + 1
theorem cntL_len_Told (xs : List ToldT) : xs.length ≤ cntL ToldT.cnt xs := by
  induction xs with
  | nil => exact Nat.zero_le _
  | cons x xs ih =>
    simp only [cntL, List.map_cons, List.sum_cons, List.length_cons] at ih ⊢
    have hcx : ToldT.cnt x = 1 + 1 + 1 := rfl
    omega
theorem ToldT.cnt_w (x : ToldT) : ToldT.cnt x ≤ 100 := by
  exact Nat.le_of_ble_eq_true rfl
theorem c_laws_toTold (x : ToldT) : PC Tryz.prog false 225 [.agg x.cells] (.agg (ToldT.cells x)) [] := by
  refine pc_at Tryz.func225 rfl (by kernel_rfl) 14 [.cell 2 275] rfl rfl ?_
  repeat' (conv => whnf); first
    | refine nameB_self (b := x.Yes) ?_
    | refine nameB_true ?_
    | refine nameB_false ?_
    | refine nameB_yes (by assumption) ?_
    | refine nameB_no (by assumption) ?_
    | refine nameB_dyes (by assumption) ?_
    | refine nameB_dno (by assumption) ?_
    | (refine nameB_dec (fun h => ?_) (fun h => ?_) <;> try simp only [List.length_map, List.length_take, List.length_append, List.length_drop, List.length_set, markList_length, midL_len, mkL_length, Int.toNat_natCast, fact_byte] at h)
    | (refine nameB_cases (fun h => ?_) (fun h => ?_) <;> try simp only [bne_iff_ne, ne_eq, bne_eq_false_iff_eq, beq_iff_eq, beq_eq_false_iff_ne, Bool.not_eq_true', Bool.not_eq_false', Bool.or_eq_true, Bool.or_eq_false_iff, List.length_map, List.length_take, List.length_append, List.length_drop, List.length_set, markList_length, midL_len, mkL_length, Int.toNat_natCast, fact_byte] at h)
    | refine splitB_true ?_
    | refine splitB_false ?_
    | (refine splitB_intro (fun h => ?_) (fun h => ?_) <;> subst h)
    | refine draw_text (by kernel_rfl) (by kernel_rfl) (by kernel_rfl) ?_
    | refine both_intro ?_ ?_
    | exact True.intro
    | refine ix_map_at hx ?_
    | refine ix_map_at hy ?_
    | refine sl_pre (by omega) (fun _ => rfl) ?_
    | refine sl_suf (by omega) (fun _ => rfl) ?_
    | (refine ix_map2 hx (by omega) (by (try simp only [List.length_take]); omega) (fun y hy => ?_); try simp only [Int.toNat_natCast] at hy)
    | (refine ix_map (by omega) (by (try simp only [List.length_take]); omega) (fun x hx => ?_); try simp only [Int.toNat_natCast] at hx)
    | refine side_and (side_of (by first | (and_intros <;> first | exact Nat.le_of_ble_eq_true rfl | rfl | omega | (simp only [List.length_map, List.length_append, List.length_replicate, List.length_take, List.length_cons, List.length_nil, List.length_drop, List.length_set, markList_length, midL_len, mkL_length]; omega) | exact bytes_ok (Nat.le_of_ble_eq_true rfl) (by omega) (by simp only [List.length_map, List.length_append, List.length_replicate, List.length_take, List.length_cons, List.length_nil, List.length_drop, List.length_set, markList_length, midL_len, mkL_length]; omega) | exact bytes_okN (Nat.le_of_ble_eq_true rfl) (by simp only [List.length_map, List.length_append, List.length_replicate, List.length_take, List.length_cons, List.length_nil, List.length_drop, List.length_set, markList_length, midL_len, mkL_length]; omega)) | fail)) ?_
    | refine nilB_intro (fun h => ?_) ?_
    | refine side_and (side_of (show Go.Ab.structOk _ _ = true by kernel_rfl)) ?_
    | refine side_and (side_of (map_len (fun _ => rfl))) ?_
    | refine side_and (side_of (map_one (fun _ => rfl) _)) ?_
    | refine side_and ?_ ?_
    | refine LoadK_of rfl rfl ?_
    | refine LoadD_cel rfl rfl rfl rfl ?_
    | refine LoadD_of rfl ?_
    | refine StoreD_of rfl rfl rfl ?_
    | refine AppD_of rfl (by and_intros <;> first | rfl | decide) (by simp only [List.length_map, List.length_append, List.length_take, List.length_cons, List.length_nil]; first | (refine ⟨by omega, ?_⟩; refine Nat.le_trans (Nat.mul_le_mul_left _ (show _ ≤ 512 by decide)) ?_; omega) | fail) ?_
    | refine AppN_of rfl rfl (by and_intros <;> rfl) (by simp only [List.length_map, List.length_append, List.length_take, List.length_cons, List.length_nil]; first | (refine ⟨by omega, ?_⟩; refine Nat.le_trans (Nat.mul_le_mul_left _ (show _ ≤ 512 by decide)) ?_; omega) | fail) ?_
    | (show False; omega)
  all_goals
    conv => whnf
    exact OutA_plain rfl rfl rfl
theorem c_laws_eqTold (x y : ToldT) : PC Tryz.prog false 237 [.agg x.cells, .agg y.cells] (.bool (decide (x = y))) [] := by
  refine pc_at Tryz.func237 rfl (by kernel_rfl) 20 [.tmp 4] rfl rfl ?_
  repeat' (conv => whnf); first
    | refine nameB_self (b := x.Yes) ?_
    | refine nameB_self (b := y.Yes) ?_
    | refine nameB_true ?_
    | refine nameB_false ?_
    | refine nameB_yes (by assumption) ?_
    | refine nameB_no (by assumption) ?_
    | refine nameB_dyes (by assumption) ?_
    | refine nameB_dno (by assumption) ?_
    | (refine nameB_dec (fun h => ?_) (fun h => ?_) <;> try simp only [List.length_map, List.length_take, List.length_append, List.length_drop, List.length_set, markList_length, midL_len, mkL_length, Int.toNat_natCast, fact_byte] at h)
    | (refine nameB_cases (fun h => ?_) (fun h => ?_) <;> try simp only [bne_iff_ne, ne_eq, bne_eq_false_iff_eq, beq_iff_eq, beq_eq_false_iff_ne, Bool.not_eq_true', Bool.not_eq_false', Bool.or_eq_true, Bool.or_eq_false_iff, List.length_map, List.length_take, List.length_append, List.length_drop, List.length_set, markList_length, midL_len, mkL_length, Int.toNat_natCast, fact_byte] at h)
    | refine splitB_true ?_
    | refine splitB_false ?_
    | (refine splitB_intro (fun h => ?_) (fun h => ?_) <;> subst h)
    | refine draw_text (by kernel_rfl) (by kernel_rfl) (by kernel_rfl) ?_
    | refine both_intro ?_ ?_
    | exact True.intro
    | refine ix_map_at hx ?_
    | refine ix_map_at hy ?_
    | refine sl_pre (by omega) (fun _ => rfl) ?_
    | refine sl_suf (by omega) (fun _ => rfl) ?_
    | (refine ix_map2 hx (by omega) (by (try simp only [List.length_take]); omega) (fun y hy => ?_); try simp only [Int.toNat_natCast] at hy)
    | (refine ix_map (by omega) (by (try simp only [List.length_take]); omega) (fun x hx => ?_); try simp only [Int.toNat_natCast] at hx)
    | refine side_and (side_of (by first | (and_intros <;> first | exact Nat.le_of_ble_eq_true rfl | rfl | omega | (simp only [List.length_map, List.length_append, List.length_replicate, List.length_take, List.length_cons, List.length_nil, List.length_drop, List.length_set, markList_length, midL_len, mkL_length]; omega) | exact bytes_ok (Nat.le_of_ble_eq_true rfl) (by omega) (by simp only [List.length_map, List.length_append, List.length_replicate, List.length_take, List.length_cons, List.length_nil, List.length_drop, List.length_set, markList_length, midL_len, mkL_length]; omega) | exact bytes_okN (Nat.le_of_ble_eq_true rfl) (by simp only [List.length_map, List.length_append, List.length_replicate, List.length_take, List.length_cons, List.length_nil, List.length_drop, List.length_set, markList_length, midL_len, mkL_length]; omega)) | fail)) ?_
    | refine nilB_intro (fun h => ?_) ?_
    | refine side_and (side_of (show Go.Ab.structOk _ _ = true by kernel_rfl)) ?_
    | refine side_and (side_of (map_len (fun _ => rfl))) ?_
    | refine side_and (side_of (map_one (fun _ => rfl) _)) ?_
    | refine side_and ?_ ?_
    | refine LoadK_of rfl rfl ?_
    | refine LoadD_cel rfl rfl rfl rfl ?_
    | refine LoadD_of rfl ?_
    | refine StoreD_of rfl rfl rfl ?_
    | refine AppD_of rfl (by and_intros <;> first | rfl | decide) (by simp only [List.length_map, List.length_append, List.length_take, List.length_cons, List.length_nil]; first | (refine ⟨by omega, ?_⟩; refine Nat.le_trans (Nat.mul_le_mul_left _ (show _ ≤ 512 by decide)) ?_; omega) | fail) ?_
    | refine AppN_of rfl rfl (by and_intros <;> rfl) (by simp only [List.length_map, List.length_append, List.length_take, List.length_cons, List.length_nil]; first | (refine ⟨by omega, ?_⟩; refine Nat.le_trans (Nat.mul_le_mul_left _ (show _ ≤ 512 by decide)) ?_; omega) | fail) ?_
    | (show False; omega)
  all_goals
    conv => whnf
    refine OutA_plain rfl rfl ?_
    first
    | exact bool_no (fun e => absurd (congrArg ToldT.Txn e) (by assumption))
    | exact bool_no (fun e => absurd (congrArg ToldT.Yes e) (by assumption))
    | exact bool_no (fun e => absurd (congrArg ToldT.Time e) (by assumption))
    | exact bool_yes (ToldT.same (by assumption) (by assumption) (by assumption))
theorem c_laws_szToldS (xs : List ToldT) (n : Int) (h0 : 0 ≤ n) (h1 : n ≤ 1048576) (hok : (okL ToldT.ok) xs) : PC Tryz.prog false 120 [.sl (xs.map ToldT.cells), .int .i64 n] (.int .i64 (szN n (xs.length))) [] := by
  have hl := hok.1
  refine pc_at Tryz.func120 rfl (by kernel_rfl) 12 [.tmp 4] rfl rfl ?_
  repeat' (conv => whnf); first
    | refine nameB_true ?_
    | refine nameB_false ?_
    | refine nameB_yes (by assumption) ?_
    | refine nameB_no (by assumption) ?_
    | refine nameB_dyes (by assumption) ?_
    | refine nameB_dno (by assumption) ?_
    | (refine nameB_dec (fun h => ?_) (fun h => ?_) <;> try simp only [List.length_map, List.length_take, List.length_append, List.length_drop, List.length_set, markList_length, midL_len, mkL_length, Int.toNat_natCast, fact_byte] at h)
    | (refine nameB_cases (fun h => ?_) (fun h => ?_) <;> try simp only [bne_iff_ne, ne_eq, bne_eq_false_iff_eq, beq_iff_eq, beq_eq_false_iff_ne, Bool.not_eq_true', Bool.not_eq_false', Bool.or_eq_true, Bool.or_eq_false_iff, List.length_map, List.length_take, List.length_append, List.length_drop, List.length_set, markList_length, midL_len, mkL_length, Int.toNat_natCast, fact_byte] at h)
    | refine splitB_true ?_
    | refine splitB_false ?_
    | (refine splitB_intro (fun h => ?_) (fun h => ?_) <;> subst h)
    | refine draw_text (by kernel_rfl) (by kernel_rfl) (by kernel_rfl) ?_
    | refine both_intro ?_ ?_
    | exact True.intro
    | refine ix_map_at hx ?_
    | refine ix_map_at hy ?_
    | refine sl_pre (by omega) (fun _ => rfl) ?_
    | refine sl_suf (by omega) (fun _ => rfl) ?_
    | (refine ix_map2 hx (by omega) (by (try simp only [List.length_take]); omega) (fun y hy => ?_); try simp only [Int.toNat_natCast] at hy)
    | (refine ix_map (by omega) (by (try simp only [List.length_take]); omega) (fun x hx => ?_); try simp only [Int.toNat_natCast] at hx)
    | refine side_and (side_of (by first | (and_intros <;> first | exact Nat.le_of_ble_eq_true rfl | rfl | omega | (simp only [List.length_map, List.length_append, List.length_replicate, List.length_take, List.length_cons, List.length_nil, List.length_drop, List.length_set, markList_length, midL_len, mkL_length]; omega) | exact bytes_ok (Nat.le_of_ble_eq_true rfl) (by omega) (by simp only [List.length_map, List.length_append, List.length_replicate, List.length_take, List.length_cons, List.length_nil, List.length_drop, List.length_set, markList_length, midL_len, mkL_length]; omega) | exact bytes_okN (Nat.le_of_ble_eq_true rfl) (by simp only [List.length_map, List.length_append, List.length_replicate, List.length_take, List.length_cons, List.length_nil, List.length_drop, List.length_set, markList_length, midL_len, mkL_length]; omega)) | fail)) ?_
    | refine nilB_intro (fun h => ?_) ?_
    | refine side_and (side_of (show Go.Ab.structOk _ _ = true by kernel_rfl)) ?_
    | refine side_and (side_of (map_len (fun _ => rfl))) ?_
    | refine side_and (side_of (map_one (fun _ => rfl) _)) ?_
    | refine side_and ?_ ?_
    | refine LoadK_of rfl rfl ?_
    | refine LoadD_cel rfl rfl rfl rfl ?_
    | refine LoadD_of rfl ?_
    | refine StoreD_of rfl rfl rfl ?_
    | refine AppD_of rfl (by and_intros <;> first | rfl | decide) (by simp only [List.length_map, List.length_append, List.length_take, List.length_cons, List.length_nil]; first | (refine ⟨by omega, ?_⟩; refine Nat.le_trans (Nat.mul_le_mul_left _ (show _ ≤ 512 by decide)) ?_; omega) | fail) ?_
    | refine AppN_of rfl rfl (by and_intros <;> rfl) (by simp only [List.length_map, List.length_append, List.length_take, List.length_cons, List.length_nil]; first | (refine ⟨by omega, ?_⟩; refine Nat.le_trans (Nat.mul_le_mul_left _ (show _ ≤ 512 by decide)) ?_; omega) | fail) ?_
    | (show False; omega)
  all_goals
    conv => whnf
    refine OutA_plain rfl rfl ?_
    refine congrArg (AV.int .i64) ?_
    (try simp only [i64_wrap_eq] at *)
    first | exact szN_neg (by omega) | exact szN_pos (by omega) (by simp only [List.length_map]; omega)
theorem c_laws_toToldS (xs : List ToldT) (hw : xs.length ≤ 1048576) : PC Tryz.prog false 127 [.sl (xs.map ToldT.cells)] (.own 0) [⟨.deep ToldT.shp, 275, 3, xs.map ToldT.cells⟩] := by
  have hl : xs.length ≤ 1048576 := hw
  refine pc_at Tryz.func127 rfl (by kernel_rfl) 23 [.tmp 2] rfl rfl ?_
  repeat' (conv => whnf); first
    | refine nameB_self (b := x.Yes) ?_
    | refine nameB_true ?_
    | refine nameB_false ?_
    | refine nameB_yes (by assumption) ?_
    | refine nameB_no (by assumption) ?_
    | refine nameB_dyes (by assumption) ?_
    | refine nameB_dno (by assumption) ?_
    | (refine nameB_dec (fun h => ?_) (fun h => ?_) <;> try simp only [List.length_map, List.length_take, List.length_append, List.length_drop, List.length_set, markList_length, midL_len, mkL_length, Int.toNat_natCast, fact_byte] at h)
    | (refine nameB_cases (fun h => ?_) (fun h => ?_) <;> try simp only [bne_iff_ne, ne_eq, bne_eq_false_iff_eq, beq_iff_eq, beq_eq_false_iff_ne, Bool.not_eq_true', Bool.not_eq_false', Bool.or_eq_true, Bool.or_eq_false_iff, List.length_map, List.length_take, List.length_append, List.length_drop, List.length_set, markList_length, midL_len, mkL_length, Int.toNat_natCast, fact_byte] at h)
    | refine splitB_true ?_
    | refine splitB_false ?_
    | (refine splitB_intro (fun h => ?_) (fun h => ?_) <;> subst h)
    | refine draw_text (by kernel_rfl) (by kernel_rfl) (by kernel_rfl) ?_
    | refine both_intro ?_ ?_
    | exact True.intro
    | (show Go.Ab.Loop _ _ _; (refine Loop_prom [(4128, ToldT.shp)] ⟨⟨_, _, _, rfl, by first | exact prom_nil | exact prom_rep rfl | exact prom_map (fun _ => rfl) | exact prom_one rfl⟩, trivial⟩ ?_; refine Loop_at [0, 3] [] (Nat) (fun k => True ∧ k ≤ xs.length) (fun k => [(4, .int .i64 (k : Nat))]) (fun k => [(4128, ⟨.deep ToldT.shp, 275, 3, (xs.take k).map ToldT.cells ++ List.replicate (xs.length - k) [.int .i64 0, .bool false, .int .i64 0]⟩)]) (fun k => xs.length - k) 0 ⟨by first | (simp_all <;> fail) | rfl | fail, trivial⟩ ⟨by first | rfl | exact congrArg (fun e => some (AObj.mk _ _ _ e)) (set_rep hx) | exact congrArg (fun e => some (AObj.mk _ _ _ e)) start_rep | fail | fail, trivial⟩ (by (try dsimp only); first | trivial | (refine ⟨?_, by omega⟩; simp <;> fail) | (simp <;> fail) | fail) ?_; (conv => whnf); refine side_and (side_of (by first | exact fun k => rfl | exact fun k => by simp [headOk, closedE, closedO, closedL, AV.closed, hcap.closed, hasId])) ?_; rintro k hT; try dsimp only at hT))
    | (show Go.Ab.Again _ _ _ _ _ _ _ _ _ _ _; refine Again_of (k + 1) ⟨by first | rfl | exact i64_next (by omega) | (simp_all <;> fail) | fail, trivial⟩ ⟨by first | rfl | exact congrArg (fun e => some (AObj.mk _ _ _ e)) (set_rep hx) | exact congrArg (fun e => some (AObj.mk _ _ _ e)) start_rep | fail | fail, trivial⟩ (by first | (and_intros <;> first | rfl | trivial) | fail) (by first | (and_intros <;> first | rfl | trivial) | fail) rfl rfl rfl (by (try dsimp only); first | (exact ⟨trivial, by omega⟩) | fail) (show _ < _ by (try dsimp only); omega))
    | (show Go.Ab.CallA _ _ _ _ _ _ _; refine Call0 (c_laws_toTold x) rfl rfl ?_)
    | refine ix_map_at hx ?_
    | refine ix_map_at hy ?_
    | refine sl_pre (by omega) (fun _ => rfl) ?_
    | refine sl_suf (by omega) (fun _ => rfl) ?_
    | (refine ix_map2 hx (by omega) (by (try simp only [List.length_take]); omega) (fun y hy => ?_); try simp only [Int.toNat_natCast] at hy)
    | (refine ix_map (by omega) (by (try simp only [List.length_take]); omega) (fun x hx => ?_); try simp only [Int.toNat_natCast] at hx)
    | refine side_and (side_of (by first | (and_intros <;> first | exact Nat.le_of_ble_eq_true rfl | rfl | omega | (simp only [List.length_map, List.length_append, List.length_replicate, List.length_take, List.length_cons, List.length_nil, List.length_drop, List.length_set, markList_length, midL_len, mkL_length]; omega) | exact bytes_ok (Nat.le_of_ble_eq_true rfl) (by omega) (by simp only [List.length_map, List.length_append, List.length_replicate, List.length_take, List.length_cons, List.length_nil, List.length_drop, List.length_set, markList_length, midL_len, mkL_length]; omega) | exact bytes_okN (Nat.le_of_ble_eq_true rfl) (by simp only [List.length_map, List.length_append, List.length_replicate, List.length_take, List.length_cons, List.length_nil, List.length_drop, List.length_set, markList_length, midL_len, mkL_length]; omega)) | fail)) ?_
    | refine nilB_intro (fun h => ?_) ?_
    | refine side_and (side_of (show Go.Ab.structOk _ _ = true by kernel_rfl)) ?_
    | refine side_and (side_of (map_len (fun _ => rfl))) ?_
    | refine side_and (side_of (map_one (fun _ => rfl) _)) ?_
    | refine side_and ?_ ?_
    | refine LoadK_of rfl rfl ?_
    | refine LoadD_cel rfl rfl rfl rfl ?_
    | refine LoadD_of rfl ?_
    | refine StoreD_of rfl rfl rfl ?_
    | refine AppD_of rfl (by and_intros <;> first | rfl | decide) (by simp only [List.length_map, List.length_append, List.length_take, List.length_cons, List.length_nil]; first | (refine ⟨by omega, ?_⟩; refine Nat.le_trans (Nat.mul_le_mul_left _ (show _ ≤ 512 by decide)) ?_; omega) | fail) ?_
    | refine AppN_of rfl rfl (by and_intros <;> rfl) (by simp only [List.length_map, List.length_append, List.length_take, List.length_cons, List.length_nil]; first | (refine ⟨by omega, ?_⟩; refine Nat.le_trans (Nat.mul_le_mul_left _ (show _ ≤ 512 by decide)) ?_; omega) | fail) ?_
    | refine ix_rep (by simp; omega) (by omega) ?_
    | (show False; omega)
  all_goals
    conv => whnf
    exact OutA_deep rfl rfl rfl ⟨⟨congrArg (fun e => some (AObj.mk _ _ _ e)) (full_rep (by omega)), rfl⟩, trivial⟩ rfl
theorem c_laws_eqToldS (xs ys : List ToldT) (hok : (okL ToldT.ok) xs) : PC Tryz.prog false 134 [.sl (xs.map ToldT.cells), .sl (ys.map ToldT.cells)] (.bool (decide (xs = ys))) [] := by
  have hl := hok.1
  refine pc_at Tryz.func134 rfl (by kernel_rfl) 27 [.tmp 4] rfl rfl ?_
  repeat' (conv => whnf); first
    | refine nameB_true ?_
    | refine nameB_false ?_
    | refine nameB_yes (by assumption) ?_
    | refine nameB_no (by assumption) ?_
    | refine nameB_dyes (by assumption) ?_
    | refine nameB_dno (by assumption) ?_
    | (refine nameB_dec (fun h => ?_) (fun h => ?_) <;> try simp only [List.length_map, List.length_take, List.length_append, List.length_drop, List.length_set, markList_length, midL_len, mkL_length, Int.toNat_natCast, fact_byte] at h)
    | (refine nameB_cases (fun h => ?_) (fun h => ?_) <;> try simp only [bne_iff_ne, ne_eq, bne_eq_false_iff_eq, beq_iff_eq, beq_eq_false_iff_ne, Bool.not_eq_true', Bool.not_eq_false', Bool.or_eq_true, Bool.or_eq_false_iff, List.length_map, List.length_take, List.length_append, List.length_drop, List.length_set, markList_length, midL_len, mkL_length, Int.toNat_natCast, fact_byte] at h)
    | refine splitB_true ?_
    | refine splitB_false ?_
    | (refine splitB_intro (fun h => ?_) (fun h => ?_) <;> subst h)
    | refine draw_text (by kernel_rfl) (by kernel_rfl) (by kernel_rfl) ?_
    | refine both_intro ?_ ?_
    | exact True.intro
    | (show Go.Ab.Loop _ _ _; (refine Loop_at [0, 1] [] (Nat) (fun k => xs.take k = ys.take k ∧ k ≤ xs.length) (fun k => [(5, .int .i64 (k : Nat))]) (fun k => []) (fun k => xs.length - k) 0 ⟨by first | (simp_all <;> fail) | rfl | fail, trivial⟩ trivial (by (try dsimp only); first | trivial | (refine ⟨?_, by omega⟩; simp <;> fail) | (simp <;> fail) | fail) ?_; (conv => whnf); refine side_and (side_of (by first | exact fun k => rfl | exact fun k => by simp [headOk, closedE, closedO, closedL, AV.closed, hcap.closed, hasId])) ?_; rintro k hT; try dsimp only at hT))
    | (show Go.Ab.Again _ _ _ _ _ _ _ _ _ _ _; refine Again_of (k + 1) ⟨by first | rfl | exact i64_next (by omega) | (simp_all <;> fail) | fail, trivial⟩ trivial (by first | (and_intros <;> first | rfl | trivial) | fail) (by first | (and_intros <;> first | rfl | trivial) | fail) rfl rfl rfl (by (try dsimp only); first | (exact ⟨take_next hT.1 hx hy (by assumption), by omega⟩) | fail) (show _ < _ by (try dsimp only); omega))
    | (show Go.Ab.CallA _ _ _ _ _ _ _; refine Call0 (c_laws_eqTold x y) rfl rfl ?_)
    | (show Go.Ab.CallD _ _ _ _ _ _ _; refine CallD0 (c_laws_eqTold x y) rfl rfl rfl ?_)
    | refine ix_map_at hx ?_
    | refine ix_map_at hy ?_
    | refine sl_pre (by omega) (fun _ => rfl) ?_
    | refine sl_suf (by omega) (fun _ => rfl) ?_
    | (refine ix_map2 hx (by omega) (by (try simp only [List.length_take]); omega) (fun y hy => ?_); try simp only [Int.toNat_natCast] at hy)
    | (refine ix_map (by omega) (by (try simp only [List.length_take]); omega) (fun x hx => ?_); try simp only [Int.toNat_natCast] at hx)
    | refine side_and (side_of (by first | (and_intros <;> first | exact Nat.le_of_ble_eq_true rfl | rfl | omega | (simp only [List.length_map, List.length_append, List.length_replicate, List.length_take, List.length_cons, List.length_nil, List.length_drop, List.length_set, markList_length, midL_len, mkL_length]; omega) | exact bytes_ok (Nat.le_of_ble_eq_true rfl) (by omega) (by simp only [List.length_map, List.length_append, List.length_replicate, List.length_take, List.length_cons, List.length_nil, List.length_drop, List.length_set, markList_length, midL_len, mkL_length]; omega) | exact bytes_okN (Nat.le_of_ble_eq_true rfl) (by simp only [List.length_map, List.length_append, List.length_replicate, List.length_take, List.length_cons, List.length_nil, List.length_drop, List.length_set, markList_length, midL_len, mkL_length]; omega)) | fail)) ?_
    | refine nilB_intro (fun h => ?_) ?_
    | refine side_and (side_of (show Go.Ab.structOk _ _ = true by kernel_rfl)) ?_
    | refine side_and (side_of (map_len (fun _ => rfl))) ?_
    | refine side_and (side_of (map_one (fun _ => rfl) _)) ?_
    | refine side_and ?_ ?_
    | refine LoadK_of rfl rfl ?_
    | refine LoadD_cel rfl rfl rfl rfl ?_
    | refine LoadD_of rfl ?_
    | refine StoreD_of rfl rfl rfl ?_
    | refine AppD_of rfl (by and_intros <;> first | rfl | decide) (by simp only [List.length_map, List.length_append, List.length_take, List.length_cons, List.length_nil]; first | (refine ⟨by omega, ?_⟩; refine Nat.le_trans (Nat.mul_le_mul_left _ (show _ ≤ 512 by decide)) ?_; omega) | fail) ?_
    | refine AppN_of rfl rfl (by and_intros <;> rfl) (by simp only [List.length_map, List.length_append, List.length_take, List.length_cons, List.length_nil]; first | (refine ⟨by omega, ?_⟩; refine Nat.le_trans (Nat.mul_le_mul_left _ (show _ ≤ 512 by decide)) ?_; omega) | fail) ?_
    | (show False; omega)
  all_goals
    conv => whnf
    refine OutA_plain rfl rfl ?_
    first
    | exact bool_no (len_ne (by omega))
    | exact bool_no (get_ne hx hy (by assumption))
    | exact bool_yes (take_all_eq hT.1 (by omega) (by omega))
theorem m_laws_markToldS (xs : List ToldT) (k : Int) (h0 : 0 ≤ k) (h1 : k + (cntL ToldT.cnt xs : Int) ≤ 1152921504606846976) (hl : xs.length ≤ 1152921504606846976) : MC Tryz.prog 163 false [.sl (xs.map ToldT.cells)] [.sl 275 3 ToldT.shp] k [.sl ((mkL ToldT.mkM ToldT.cnt xs k).map ToldT.cells)] (k + (cntL ToldT.cnt xs : Int)) := by
  refine mc_of Tryz.func163 rfl (by kernel_rfl) 36 [.tmp 4] [.own 0] rfl rfl (fun e => by first | rfl | cases e) rfl rfl ?_
  repeat' (conv => whnf); first
    | refine nameB_self (b := (_ == _)) ?_
    | (show Go.Ab.StoreD _ _ _ 0 _ _ _ _ _; refine StoreD_cut (off := 0) [(0, .own 0), (1, .int .i64 ((k + (cntL ToldT.cnt (xs.take i) : Int)))), (5, .int .i64 (i : Nat))] [(0, ⟨.deep ToldT.shp, 275, 3, (((midL ToldT.mkM ToldT.cnt xs k i).map ToldT.cells).set i [.int .i64 ((k + (cntL ToldT.cnt (xs.take i) : Int))), .bool x.Yes, .int .i64 x.Time])⟩)] rfl rfl ⟨rfl, (by first | rfl | exact congrArg (AV.int IntKind.i64) (by first | (have hle := cntL_le (cnt := ToldT.cnt) hx; have hcx : ToldT.cnt x = 1 + 1 + 1 := rfl; first | (simp (disch := omega) only [i64w] <;> fail) | (simp (disch := omega) only [i64w]; omega)) | fail) | fail), rfl, trivial⟩ rfl ⟨congrArg (fun l => some (AObj.mk _ _ _ l)) (by first | (have hle := cntL_le (cnt := ToldT.cnt) hx; have hcx : ToldT.cnt x = 1 + 1 + 1 := rfl; (try simp only [List.set_set, Int.toNat_natCast]); refine congrArg (List.set _ _) ?_; ((repeat' refine cells_eq ?_ ?_) <;> first | rfl | (refine congrArg (AV.int IntKind.i64) ?_; simp (disch := omega) only [i64w]; first | done | rfl) | (refine congrArg AV.str (congrArg mText ?_); simp (disch := omega) only [i64w]; first | done | rfl) | (refine congrArg AV.bool ?_; simp (disch := omega) only [i64w]; first | done | rfl) | (refine congrArg AV.sl ?_; simp (disch := omega) only [i64w]; first | done | rfl))) | fail), trivial⟩ rfl rfl ⟨rfl, by simp⟩ ?_)
    | (show Go.Ab.StoreD _ _ _ 1 _ _ _ _ _; refine StoreD_cut (off := 1) [(0, .own 0), (1, .int .i64 ((k + (cntL ToldT.cnt (xs.take i) : Int)) + 1)), (5, .int .i64 (i : Nat))] [(0, ⟨.deep ToldT.shp, 275, 3, (((midL ToldT.mkM ToldT.cnt xs k i).map ToldT.cells).set i [.int .i64 ((k + (cntL ToldT.cnt (xs.take i) : Int))), .bool (((k + (cntL ToldT.cnt (xs.take i) : Int)) + 1).tmod 3 == 0), .int .i64 x.Time])⟩)] rfl rfl ⟨rfl, (by first | rfl | exact congrArg (AV.int IntKind.i64) (by first | (have hle := cntL_le (cnt := ToldT.cnt) hx; have hcx : ToldT.cnt x = 1 + 1 + 1 := rfl; first | (simp (disch := omega) only [i64w] <;> fail) | (simp (disch := omega) only [i64w]; omega)) | fail) | fail), rfl, trivial⟩ rfl ⟨congrArg (fun l => some (AObj.mk _ _ _ l)) (by first | (have hle := cntL_le (cnt := ToldT.cnt) hx; have hcx : ToldT.cnt x = 1 + 1 + 1 := rfl; (try simp only [List.set_set, Int.toNat_natCast]); refine congrArg (List.set _ _) ?_; ((repeat' refine cells_eq ?_ ?_) <;> first | rfl | (refine congrArg (AV.int IntKind.i64) ?_; simp (disch := omega) only [i64w]; first | done | rfl) | (refine congrArg AV.str (congrArg mText ?_); simp (disch := omega) only [i64w]; first | done | rfl) | (refine congrArg AV.bool ?_; simp (disch := omega) only [i64w]; first | done | rfl) | (refine congrArg AV.sl ?_; simp (disch := omega) only [i64w]; first | done | rfl))) | fail), trivial⟩ rfl rfl ⟨rfl, by simp⟩ ?_)
    | (show Go.Ab.StoreD _ _ _ 2 _ _ _ _ _; refine StoreD_cut (off := 2) [(0, .own 0), (1, .int .i64 ((k + (cntL ToldT.cnt (xs.take i) : Int)) + 1 + 1)), (5, .int .i64 (i : Nat))] [(0, ⟨.deep ToldT.shp, 275, 3, (((midL ToldT.mkM ToldT.cnt xs k i).map ToldT.cells).set i [.int .i64 ((k + (cntL ToldT.cnt (xs.take i) : Int))), .bool (((k + (cntL ToldT.cnt (xs.take i) : Int)) + 1).tmod 3 == 0), .int .i64 ((k + (cntL ToldT.cnt (xs.take i) : Int)) + 1 + 1)])⟩)] rfl rfl ⟨rfl, (by first | rfl | exact congrArg (AV.int IntKind.i64) (by first | (have hle := cntL_le (cnt := ToldT.cnt) hx; have hcx : ToldT.cnt x = 1 + 1 + 1 := rfl; first | (simp (disch := omega) only [i64w] <;> fail) | (simp (disch := omega) only [i64w]; omega)) | fail) | fail), rfl, trivial⟩ rfl ⟨congrArg (fun l => some (AObj.mk _ _ _ l)) (by first | (have hle := cntL_le (cnt := ToldT.cnt) hx; have hcx : ToldT.cnt x = 1 + 1 + 1 := rfl; (try simp only [List.set_set, Int.toNat_natCast]); refine congrArg (List.set _ _) ?_; ((repeat' refine cells_eq ?_ ?_) <;> first | rfl | (refine congrArg (AV.int IntKind.i64) ?_; simp (disch := omega) only [i64w]; first | done | rfl) | (refine congrArg AV.str (congrArg mText ?_); simp (disch := omega) only [i64w]; first | done | rfl) | (refine congrArg AV.bool ?_; simp (disch := omega) only [i64w]; first | done | rfl) | (refine congrArg AV.sl ?_; simp (disch := omega) only [i64w]; first | done | rfl))) | fail), trivial⟩ rfl rfl ⟨rfl, by simp⟩ ?_)
    | refine nameB_true ?_
    | refine nameB_false ?_
    | refine nameB_yes (by assumption) ?_
    | refine nameB_no (by assumption) ?_
    | refine nameB_dyes (by assumption) ?_
    | refine nameB_dno (by assumption) ?_
    | (refine nameB_dec (fun h => ?_) (fun h => ?_) <;> try simp only [List.length_map, List.length_take, List.length_append, List.length_drop, List.length_set, markList_length, midL_len, mkL_length, Int.toNat_natCast, fact_byte] at h)
    | (refine nameB_cases (fun h => ?_) (fun h => ?_) <;> try simp only [bne_iff_ne, ne_eq, bne_eq_false_iff_eq, beq_iff_eq, beq_eq_false_iff_ne, Bool.not_eq_true', Bool.not_eq_false', Bool.or_eq_true, Bool.or_eq_false_iff, List.length_map, List.length_take, List.length_append, List.length_drop, List.length_set, markList_length, midL_len, mkL_length, Int.toNat_natCast, fact_byte] at h)
    | refine splitB_true ?_
    | refine splitB_false ?_
    | (refine splitB_intro (fun h => ?_) (fun h => ?_) <;> subst h)
    | refine draw_text (by kernel_rfl) (by kernel_rfl) (by kernel_rfl) ?_
    | refine both_intro ?_ ?_
    | exact True.intro
    | (show Go.Ab.Loop _ _ _; (refine Loop_at [0] [] (Nat) (fun i => i ≤ xs.length) (fun i => [(1, .int .i64 (k + (cntL ToldT.cnt (xs.take i) : Int))), (5, .int .i64 (i : Nat))]) (fun i => [(0, ⟨.deep ToldT.shp, 275, 3, (midL ToldT.mkM ToldT.cnt xs k i).map ToldT.cells⟩)]) (fun i => xs.length - i) 0 ⟨by first | first | exact cnt0_eq | exact congrArg (AV.int IntKind.i64) (by first | (have hle := cntL_le (cnt := ToldT.cnt) hx; have hcx : ToldT.cnt x = 1 + 1 + 1 := rfl; rw [cntL_take hx]; (try simp (disch := omega) only [i64w]); omega) | fail) | rfl | fail, by first | first | exact cnt0_eq | exact congrArg (AV.int IntKind.i64) (by first | (have hle := cntL_le (cnt := ToldT.cnt) hx; have hcx : ToldT.cnt x = 1 + 1 + 1 := rfl; rw [cntL_take hx]; (try simp (disch := omega) only [i64w]); omega) | fail) | rfl | fail, trivial⟩ ⟨by first | rfl | first | exact congrArg (fun e => some (AObj.mk _ _ _ e)) (congrArg (List.map ToldT.cells) midL_zero.symm) | exact congrArg (fun e => some (AObj.mk _ _ _ e)) (by first | (refine midL_next hx ?_; rfl) | fail) | fail | fail, trivial⟩ (by (try dsimp only); first | (exact Nat.zero_le _) | fail) ?_; (conv => whnf); refine side_and (side_of (by first | exact fun i => rfl | exact fun i => by simp [headOk, closedE, closedO, closedL, AV.closed, hcap.closed, hasId])) ?_; rintro i hM; try dsimp only at hM))
    | (show Go.Ab.Again _ _ _ _ _ _ _ _ _ _ _; refine Again_of (i + 1) ⟨by first | first | exact cnt0_eq | exact congrArg (AV.int IntKind.i64) (by first | (have hle := cntL_le (cnt := ToldT.cnt) hx; have hcx : ToldT.cnt x = 1 + 1 + 1 := rfl; rw [cntL_take hx]; (try simp (disch := omega) only [i64w]); omega) | fail) | rfl | fail, by first | rfl | exact i64_next (by omega) | first | exact cnt0_eq | exact congrArg (AV.int IntKind.i64) (by first | (have hle := cntL_le (cnt := ToldT.cnt) hx; have hcx : ToldT.cnt x = 1 + 1 + 1 := rfl; rw [cntL_take hx]; (try simp (disch := omega) only [i64w]); omega) | fail) | fail, trivial⟩ ⟨by first | rfl | first | exact congrArg (fun e => some (AObj.mk _ _ _ e)) (congrArg (List.map ToldT.cells) midL_zero.symm) | exact congrArg (fun e => some (AObj.mk _ _ _ e)) (by first | (refine midL_next hx ?_; rfl) | fail) | fail | fail, trivial⟩ (by first | (and_intros <;> first | rfl | trivial) | fail) (by first | (and_intros <;> first | rfl | trivial) | fail) rfl rfl rfl (by (try dsimp only); first | ((show i + 1 ≤ _; omega)) | fail) (show _ < _ by (try dsimp only); omega))
    | refine ix_map_at hx ?_
    | refine ix_map_at hy ?_
    | refine sl_pre (by omega) (fun _ => rfl) ?_
    | refine sl_suf (by omega) (fun _ => rfl) ?_
    | (refine ix_map2 hx (by omega) (by (try simp only [List.length_take]); omega) (fun y hy => ?_); try simp only [Int.toNat_natCast] at hy)
    | (refine ix_map (by omega) (by (try simp only [List.length_take]); omega) (fun x hx => ?_); try simp only [Int.toNat_natCast] at hx)
    | refine side_and (side_of (by first | (and_intros <;> first | exact Nat.le_of_ble_eq_true rfl | rfl | omega | (simp only [List.length_map, List.length_append, List.length_replicate, List.length_take, List.length_cons, List.length_nil, List.length_drop, List.length_set, markList_length, midL_len, mkL_length]; omega) | exact bytes_ok (Nat.le_of_ble_eq_true rfl) (by omega) (by simp only [List.length_map, List.length_append, List.length_replicate, List.length_take, List.length_cons, List.length_nil, List.length_drop, List.length_set, markList_length, midL_len, mkL_length]; omega) | exact bytes_okN (Nat.le_of_ble_eq_true rfl) (by simp only [List.length_map, List.length_append, List.length_replicate, List.length_take, List.length_cons, List.length_nil, List.length_drop, List.length_set, markList_length, midL_len, mkL_length]; omega)) | fail)) ?_
    | refine nilB_intro (fun h => ?_) ?_
    | refine side_and (side_of (show Go.Ab.structOk _ _ = true by kernel_rfl)) ?_
    | refine side_and (side_of (map_len (fun _ => rfl))) ?_
    | refine side_and (side_of (map_one (fun _ => rfl) _)) ?_
    | refine side_and ?_ ?_
    | refine LoadK_of rfl rfl ?_
    | refine LoadD_cel rfl rfl rfl rfl ?_
    | refine LoadD_of rfl ?_
    | refine StoreD_of rfl rfl rfl ?_
    | refine AppD_of rfl (by and_intros <;> first | rfl | decide) (by simp only [List.length_map, List.length_append, List.length_take, List.length_cons, List.length_nil]; first | (refine ⟨by omega, ?_⟩; refine Nat.le_trans (Nat.mul_le_mul_left _ (show _ ≤ 512 by decide)) ?_; omega) | fail) ?_
    | refine AppN_of rfl rfl (by and_intros <;> rfl) (by simp only [List.length_map, List.length_append, List.length_take, List.length_cons, List.length_nil]; first | (refine ⟨by omega, ?_⟩; refine Nat.le_trans (Nat.mul_le_mul_left _ (show _ ≤ 512 by decide)) ?_; omega) | fail) ?_
    | refine ix_setN (by simp only [List.length_set, List.length_map, midL_len]; omega) ?_
    | refine ix_mid (by omega) (fun x hx => ?_)
    | (show False; omega)
  all_goals
    conv => whnf
    refine OutM_of (by rfl) (by rfl) (by rfl) ?_ ?_
    · exact congrArg (fun n : Nat => AV.int .i64 (k + (n : Int))) (cntL_end (by omega))
    · exact congrArg (fun l => [AV.sl (List.map ToldT.cells l)]) (midL_end (by omega))
structure StateT where
  Floor : Int
  Cells : List CellT
  Held : List HeldT
  Told : List ToldT
deriving DecidableEq
def StateT.cells (x : StateT) : List AV := [.int .i64 x.Floor, .sl (x.Cells.map CellT.cells), .sl (x.Held.map HeldT.cells), .sl (x.Told.map ToldT.cells)]
def StateT.ok (x : StateT) : Prop := okT x.Floor ∧ (okL CellT.ok) x.Cells ∧ (okL HeldT.ok) x.Held ∧ (okL ToldT.ok) x.Told
def StateT.w (x : StateT) : Nat := wL CellT.w x.Cells + wL HeldT.w x.Held + x.Told.length
theorem StateT.same {x y : StateT} (hFloor : x.Floor = y.Floor) (hCells : x.Cells = y.Cells) (hHeld : x.Held = y.Held) (hTold : x.Told = y.Told) : x = y := by cases x; cases y; simp_all
theorem open_State : ∀ n cs, Sh Tryz.prog n 87 cs → ∃ x : StateT, cs = StateT.cells x ∧ StateT.ok x := by
  intro n cs h
  cases n with
  | zero => unfold Sh at h; exact h.elim
  | succ n =>
    unfold Sh at h
    rw [Tryz.underlying87] at h
    simp only [ShL] at h
    obtain ⟨y0, z0, rfl, g0, y1, z1, rfl, g1, y2, z2, rfl, g2, y3, z3, rfl, g3, rfl⟩ := h
    obtain ⟨x0, rfl, o0⟩ := open_int Tryz.underlying3 _ _ g0
    obtain ⟨x1, rfl, o1⟩ := open_list Tryz.underlying83 (open_Cell) _ _ g1
    obtain ⟨x2, rfl, o2⟩ := open_list Tryz.underlying84 (open_Held) _ _ g2
    obtain ⟨x3, rfl, o3⟩ := open_list Tryz.underlying85 (open_Told) _ _ g3
    exact ⟨⟨x0, x1, x2, x3⟩, rfl, o0, o1, o2, o3⟩
def StateT.shp : List Shp := [.leaf, .sl 272 2 CellT.shp, .sl 127 5 HeldT.shp, .sl 275 3 ToldT.shp]
def StateT.mkM (x : StateT) (k : Int) : StateT := ⟨k, mkL CellT.mkM CellT.cnt x.Cells (k + 1), mkL HeldT.mkM HeldT.cnt x.Held (k + 1 + (cntL CellT.cnt x.Cells : Int)), mkL ToldT.mkM ToldT.cnt x.Told (k + 1 + (cntL CellT.cnt x.Cells : Int) + (cntL HeldT.cnt x.Held : Int))⟩
def StateT.cnt (x : StateT) : Nat := 1 + cntL CellT.cnt x.Cells + cntL HeldT.cnt x.Held + cntL ToldT.cnt x.Told
def StateT.mkS (x : StateT) (k : Int) : StateT := ⟨x.Floor, mkL CellT.mkM CellT.cnt x.Cells k, mkL HeldT.mkM HeldT.cnt x.Held (k + (cntL CellT.cnt x.Cells : Int)), mkL ToldT.mkM ToldT.cnt x.Told (k + (cntL CellT.cnt x.Cells : Int) + (cntL HeldT.cnt x.Held : Int))⟩
def StateT.cntS (x : StateT) (k : Int) : Int := k + (cntL CellT.cnt x.Cells : Int) + (cntL HeldT.cnt x.Held : Int) + (cntL ToldT.cnt x.Told : Int)
theorem StateT.cnt_w (x : StateT) : StateT.cnt x ≤ 100 * (1 + StateT.w x) := by
  have h0 := cntL_w100 (cnt := CellT.cnt) (w := CellT.w) (fun y => CellT.cnt_w y) x.Cells
  have h1 := cntL_w100 (cnt := HeldT.cnt) (w := HeldT.w) (fun y => HeldT.cnt_w y) x.Held
  have h2 := cntL_l100 (cnt := ToldT.cnt) (fun y => ToldT.cnt_w y) x.Told
  simp only [StateT.cnt, StateT.w] at *
  omega
theorem StateT.cntS_w (x : StateT) (k : Int) : StateT.cntS x k ≤ k + 100 * (1 + (StateT.w x : Int)) := by
  have h0 := cntL_w100 (cnt := CellT.cnt) (w := CellT.w) (fun y => CellT.cnt_w y) x.Cells
  have h1 := cntL_w100 (cnt := HeldT.cnt) (w := HeldT.w) (fun y => HeldT.cnt_w y) x.Held
  have h2 := cntL_l100 (cnt := ToldT.cnt) (fun y => ToldT.cnt_w y) x.Told
  simp only [StateT.cntS, StateT.cnt, StateT.w] at *
  omega
theorem c_laws_szState (x : StateT) (n : Int) (h0 : 0 ≤ n) (h1 : n ≤ 1048576) (hok : x.ok) : PC Tryz.prog false 46 [.agg x.cells, .int .i64 n] (.int .i64 (szN n x.w)) [] := by
  have oCells : (okL CellT.ok) x.Cells := hok.2.1
  have oHeld : (okL HeldT.ok) x.Held := hok.2.2.1
  have oTold : (okL ToldT.ok) x.Told := hok.2.2.2
  have hw : x.w = wL CellT.w x.Cells + wL HeldT.w x.Held + x.Told.length := rfl
  refine pc_at Tryz.func46 rfl (by kernel_rfl) 24 [.tmp 4] rfl rfl ?_
  repeat' (conv => whnf); first
    | refine nameB_true ?_
    | refine nameB_false ?_
    | refine nameB_yes (by assumption) ?_
    | refine nameB_no (by assumption) ?_
    | refine nameB_dyes (by assumption) ?_
    | refine nameB_dno (by assumption) ?_
    | (refine nameB_dec (fun h => ?_) (fun h => ?_) <;> try simp only [List.length_map, List.length_take, List.length_append, List.length_drop, List.length_set, markList_length, midL_len, mkL_length, Int.toNat_natCast, fact_byte] at h)
    | (refine nameB_cases (fun h => ?_) (fun h => ?_) <;> try simp only [bne_iff_ne, ne_eq, bne_eq_false_iff_eq, beq_iff_eq, beq_eq_false_iff_ne, Bool.not_eq_true', Bool.not_eq_false', Bool.or_eq_true, Bool.or_eq_false_iff, List.length_map, List.length_take, List.length_append, List.length_drop, List.length_set, markList_length, midL_len, mkL_length, Int.toNat_natCast, fact_byte] at h)
    | refine splitB_true ?_
    | refine splitB_false ?_
    | (refine splitB_intro (fun h => ?_) (fun h => ?_) <;> subst h)
    | refine draw_text (by kernel_rfl) (by kernel_rfl) (by kernel_rfl) ?_
    | refine both_intro ?_ ?_
    | exact True.intro
    | (show Go.Ab.CallA _ _ _ _ _ _ _; first
        | (by_cases hn0 : n - ((wL CellT.w x.Cells : Nat) : Int) < 0 <;> first | refine Call0 (pc_szneg (c_laws_szCellS x.Cells n (by (try simp only [i64_wrap_eq] at *); omega) (by (try simp only [i64_wrap_eq] at *); omega) oCells) hn0) rfl rfl ?_ | refine Call0 (pc_szpos (c_laws_szCellS x.Cells n (by (try simp only [i64_wrap_eq] at *); omega) (by (try simp only [i64_wrap_eq] at *); omega) oCells) hn0) rfl rfl ?_)
        | (by_cases hn1 : (n - ((wL CellT.w x.Cells : Nat) : Int)) - ((wL HeldT.w x.Held : Nat) : Int) < 0 <;> first | refine Call0 (pc_szneg (c_laws_szHeldS x.Held (n - ((wL CellT.w x.Cells : Nat) : Int)) (by (try simp only [i64_wrap_eq] at *); omega) (by (try simp only [i64_wrap_eq] at *); omega) oHeld) hn1) rfl rfl ?_ | refine Call0 (pc_szpos (c_laws_szHeldS x.Held (n - ((wL CellT.w x.Cells : Nat) : Int)) (by (try simp only [i64_wrap_eq] at *); omega) (by (try simp only [i64_wrap_eq] at *); omega) oHeld) hn1) rfl rfl ?_)
        | (by_cases hn2 : ((n - ((wL CellT.w x.Cells : Nat) : Int)) - ((wL HeldT.w x.Held : Nat) : Int)) - ((x.Told.length : Nat) : Int) < 0 <;> first | refine Call0 (pc_szneg (c_laws_szToldS x.Told ((n - ((wL CellT.w x.Cells : Nat) : Int)) - ((wL HeldT.w x.Held : Nat) : Int)) (by (try simp only [i64_wrap_eq] at *); omega) (by (try simp only [i64_wrap_eq] at *); omega) oTold) hn2) rfl rfl ?_ | refine Call0 (pc_szpos (c_laws_szToldS x.Told ((n - ((wL CellT.w x.Cells : Nat) : Int)) - ((wL HeldT.w x.Held : Nat) : Int)) (by (try simp only [i64_wrap_eq] at *); omega) (by (try simp only [i64_wrap_eq] at *); omega) oTold) hn2) rfl rfl ?_))
    | refine ix_map_at hx ?_
    | refine ix_map_at hy ?_
    | refine sl_pre (by omega) (fun _ => rfl) ?_
    | refine sl_suf (by omega) (fun _ => rfl) ?_
    | (refine ix_map2 hx (by omega) (by (try simp only [List.length_take]); omega) (fun y hy => ?_); try simp only [Int.toNat_natCast] at hy)
    | (refine ix_map (by omega) (by (try simp only [List.length_take]); omega) (fun x hx => ?_); try simp only [Int.toNat_natCast] at hx)
    | refine side_and (side_of (by first | (and_intros <;> first | exact Nat.le_of_ble_eq_true rfl | rfl | omega | (simp only [List.length_map, List.length_append, List.length_replicate, List.length_take, List.length_cons, List.length_nil, List.length_drop, List.length_set, markList_length, midL_len, mkL_length]; omega) | exact bytes_ok (Nat.le_of_ble_eq_true rfl) (by omega) (by simp only [List.length_map, List.length_append, List.length_replicate, List.length_take, List.length_cons, List.length_nil, List.length_drop, List.length_set, markList_length, midL_len, mkL_length]; omega) | exact bytes_okN (Nat.le_of_ble_eq_true rfl) (by simp only [List.length_map, List.length_append, List.length_replicate, List.length_take, List.length_cons, List.length_nil, List.length_drop, List.length_set, markList_length, midL_len, mkL_length]; omega)) | fail)) ?_
    | refine nilB_intro (fun h => ?_) ?_
    | refine side_and (side_of (show Go.Ab.structOk _ _ = true by kernel_rfl)) ?_
    | refine side_and (side_of (map_len (fun _ => rfl))) ?_
    | refine side_and (side_of (map_one (fun _ => rfl) _)) ?_
    | refine side_and ?_ ?_
    | refine LoadK_of rfl rfl ?_
    | refine LoadD_cel rfl rfl rfl rfl ?_
    | refine LoadD_of rfl ?_
    | refine StoreD_of rfl rfl rfl ?_
    | refine AppD_of rfl (by and_intros <;> first | rfl | decide) (by simp only [List.length_map, List.length_append, List.length_take, List.length_cons, List.length_nil]; first | (refine ⟨by omega, ?_⟩; refine Nat.le_trans (Nat.mul_le_mul_left _ (show _ ≤ 512 by decide)) ?_; omega) | fail) ?_
    | refine AppN_of rfl rfl (by and_intros <;> rfl) (by simp only [List.length_map, List.length_append, List.length_take, List.length_cons, List.length_nil]; first | (refine ⟨by omega, ?_⟩; refine Nat.le_trans (Nat.mul_le_mul_left _ (show _ ≤ 512 by decide)) ?_; omega) | fail) ?_
    | (show False; omega)
  all_goals
    conv => whnf
    refine OutA_plain rfl rfl ?_
    refine congrArg (AV.int .i64) ?_
    (try simp only [i64_wrap_eq] at *)
    first | exact szN_neg (by omega) | exact szN_pos (by omega) (by omega)
theorem c_laws_toState (x : StateT) (hw : StateT.w x ≤ 1048576) : PC Tryz.prog false 50 [.agg x.cells] (.agg [.int .i64 x.Floor, .own 0, .own 1, .own 2]) [⟨.deep CellT.shp, 272, 2, (x.Cells.map CellT.cells)⟩, ⟨.deep HeldT.shp, 127, 5, (x.Held.map HeldT.cells)⟩, ⟨.deep ToldT.shp, 275, 3, (x.Told.map ToldT.cells)⟩] := by
  have hw2 : x.w = wL CellT.w x.Cells + wL HeldT.w x.Held + x.Told.length := rfl
  refine pc_at Tryz.func50 rfl (by kernel_rfl) 20 [.cell 2 97] rfl rfl ?_
  repeat' (conv => whnf); first
    | refine nameB_true ?_
    | refine nameB_false ?_
    | refine nameB_yes (by assumption) ?_
    | refine nameB_no (by assumption) ?_
    | refine nameB_dyes (by assumption) ?_
    | refine nameB_dno (by assumption) ?_
    | (refine nameB_dec (fun h => ?_) (fun h => ?_) <;> try simp only [List.length_map, List.length_take, List.length_append, List.length_drop, List.length_set, markList_length, midL_len, mkL_length, Int.toNat_natCast, fact_byte] at h)
    | (refine nameB_cases (fun h => ?_) (fun h => ?_) <;> try simp only [bne_iff_ne, ne_eq, bne_eq_false_iff_eq, beq_iff_eq, beq_eq_false_iff_ne, Bool.not_eq_true', Bool.not_eq_false', Bool.or_eq_true, Bool.or_eq_false_iff, List.length_map, List.length_take, List.length_append, List.length_drop, List.length_set, markList_length, midL_len, mkL_length, Int.toNat_natCast, fact_byte] at h)
    | refine splitB_true ?_
    | refine splitB_false ?_
    | (refine splitB_intro (fun h => ?_) (fun h => ?_) <;> subst h)
    | refine draw_text (by kernel_rfl) (by kernel_rfl) (by kernel_rfl) ?_
    | refine both_intro ?_ ?_
    | exact True.intro
    | (show Go.Ab.CallA _ _ _ _ _ _ _; first
        | refine CallF (c_laws_toCellS x.Cells (by omega)) rfl rfl rfl (Nat.le_of_ble_eq_true rfl) ?_
        | refine CallF (c_laws_toHeldS x.Held (by omega)) rfl rfl rfl (Nat.le_of_ble_eq_true rfl) ?_
        | refine CallF (c_laws_toToldS x.Told (by omega)) rfl rfl rfl (Nat.le_of_ble_eq_true rfl) ?_)
    | refine ix_map_at hx ?_
    | refine ix_map_at hy ?_
    | refine sl_pre (by omega) (fun _ => rfl) ?_
    | refine sl_suf (by omega) (fun _ => rfl) ?_
    | (refine ix_map2 hx (by omega) (by (try simp only [List.length_take]); omega) (fun y hy => ?_); try simp only [Int.toNat_natCast] at hy)
    | (refine ix_map (by omega) (by (try simp only [List.length_take]); omega) (fun x hx => ?_); try simp only [Int.toNat_natCast] at hx)
    | refine side_and (side_of (by first | (and_intros <;> first | exact Nat.le_of_ble_eq_true rfl | rfl | omega | (simp only [List.length_map, List.length_append, List.length_replicate, List.length_take, List.length_cons, List.length_nil, List.length_drop, List.length_set, markList_length, midL_len, mkL_length]; omega) | exact bytes_ok (Nat.le_of_ble_eq_true rfl) (by omega) (by simp only [List.length_map, List.length_append, List.length_replicate, List.length_take, List.length_cons, List.length_nil, List.length_drop, List.length_set, markList_length, midL_len, mkL_length]; omega) | exact bytes_okN (Nat.le_of_ble_eq_true rfl) (by simp only [List.length_map, List.length_append, List.length_replicate, List.length_take, List.length_cons, List.length_nil, List.length_drop, List.length_set, markList_length, midL_len, mkL_length]; omega)) | fail)) ?_
    | refine nilB_intro (fun h => ?_) ?_
    | refine side_and (side_of (show Go.Ab.structOk _ _ = true by kernel_rfl)) ?_
    | refine side_and (side_of (map_len (fun _ => rfl))) ?_
    | refine side_and (side_of (map_one (fun _ => rfl) _)) ?_
    | refine side_and ?_ ?_
    | refine LoadK_of rfl rfl ?_
    | refine LoadD_cel rfl rfl rfl rfl ?_
    | refine LoadD_of rfl ?_
    | refine StoreD_of rfl rfl rfl ?_
    | refine AppD_of rfl (by and_intros <;> first | rfl | decide) (by simp only [List.length_map, List.length_append, List.length_take, List.length_cons, List.length_nil]; first | (refine ⟨by omega, ?_⟩; refine Nat.le_trans (Nat.mul_le_mul_left _ (show _ ≤ 512 by decide)) ?_; omega) | fail) ?_
    | refine AppN_of rfl rfl (by and_intros <;> rfl) (by simp only [List.length_map, List.length_append, List.length_take, List.length_cons, List.length_nil]; first | (refine ⟨by omega, ?_⟩; refine Nat.le_trans (Nat.mul_le_mul_left _ (show _ ≤ 512 by decide)) ?_; omega) | fail) ?_
    | (show False; omega)
  all_goals
    conv => whnf
    exact OutA_deep rfl rfl rfl ⟨⟨rfl, rfl⟩, ⟨⟨rfl, rfl⟩, ⟨⟨rfl, rfl⟩, trivial⟩⟩⟩ rfl
theorem c_laws_toState_ro (x : StateT) (hw : StateT.w x ≤ 1048576) : PC Tryz.prog true 50 [.agg x.cells] (.agg x.cells) [] := by
  have hw2 : x.w = wL CellT.w x.Cells + wL HeldT.w x.Held + x.Told.length := rfl
  refine pc_at Tryz.func50 rfl (by kernel_rfl) 20 [.cell 2 97] rfl rfl ?_
  repeat' (conv => whnf); first
    | refine nameB_true ?_
    | refine nameB_false ?_
    | refine nameB_yes (by assumption) ?_
    | refine nameB_no (by assumption) ?_
    | refine nameB_dyes (by assumption) ?_
    | refine nameB_dno (by assumption) ?_
    | (refine nameB_dec (fun h => ?_) (fun h => ?_) <;> try simp only [List.length_map, List.length_take, List.length_append, List.length_drop, List.length_set, markList_length, midL_len, mkL_length, Int.toNat_natCast, fact_byte] at h)
    | (refine nameB_cases (fun h => ?_) (fun h => ?_) <;> try simp only [bne_iff_ne, ne_eq, bne_eq_false_iff_eq, beq_iff_eq, beq_eq_false_iff_ne, Bool.not_eq_true', Bool.not_eq_false', Bool.or_eq_true, Bool.or_eq_false_iff, List.length_map, List.length_take, List.length_append, List.length_drop, List.length_set, markList_length, midL_len, mkL_length, Int.toNat_natCast, fact_byte] at h)
    | refine splitB_true ?_
    | refine splitB_false ?_
    | (refine splitB_intro (fun h => ?_) (fun h => ?_) <;> subst h)
    | refine draw_text (by kernel_rfl) (by kernel_rfl) (by kernel_rfl) ?_
    | refine both_intro ?_ ?_
    | exact True.intro
    | (show Go.Ab.CallA _ _ _ _ _ _ _; first
        | refine CallF (c_laws_toCellS x.Cells (by omega)) rfl rfl rfl (Nat.le_of_ble_eq_true rfl) ?_
        | refine CallF (c_laws_toHeldS x.Held (by omega)) rfl rfl rfl (Nat.le_of_ble_eq_true rfl) ?_
        | refine CallF (c_laws_toToldS x.Told (by omega)) rfl rfl rfl (Nat.le_of_ble_eq_true rfl) ?_)
    | refine ix_map_at hx ?_
    | refine ix_map_at hy ?_
    | refine sl_pre (by omega) (fun _ => rfl) ?_
    | refine sl_suf (by omega) (fun _ => rfl) ?_
    | (refine ix_map2 hx (by omega) (by (try simp only [List.length_take]); omega) (fun y hy => ?_); try simp only [Int.toNat_natCast] at hy)
    | (refine ix_map (by omega) (by (try simp only [List.length_take]); omega) (fun x hx => ?_); try simp only [Int.toNat_natCast] at hx)
    | refine side_and (side_of (by first | (and_intros <;> first | exact Nat.le_of_ble_eq_true rfl | rfl | omega | (simp only [List.length_map, List.length_append, List.length_replicate, List.length_take, List.length_cons, List.length_nil, List.length_drop, List.length_set, markList_length, midL_len, mkL_length]; omega) | exact bytes_ok (Nat.le_of_ble_eq_true rfl) (by omega) (by simp only [List.length_map, List.length_append, List.length_replicate, List.length_take, List.length_cons, List.length_nil, List.length_drop, List.length_set, markList_length, midL_len, mkL_length]; omega) | exact bytes_okN (Nat.le_of_ble_eq_true rfl) (by simp only [List.length_map, List.length_append, List.length_replicate, List.length_take, List.length_cons, List.length_nil, List.length_drop, List.length_set, markList_length, midL_len, mkL_length]; omega)) | fail)) ?_
    | refine nilB_intro (fun h => ?_) ?_
    | refine side_and (side_of (show Go.Ab.structOk _ _ = true by kernel_rfl)) ?_
    | refine side_and (side_of (map_len (fun _ => rfl))) ?_
    | refine side_and (side_of (map_one (fun _ => rfl) _)) ?_
    | refine side_and ?_ ?_
    | refine LoadK_of rfl rfl ?_
    | refine LoadD_cel rfl rfl rfl rfl ?_
    | refine LoadD_of rfl ?_
    | refine StoreD_of rfl rfl rfl ?_
    | refine AppD_of rfl (by and_intros <;> first | rfl | decide) (by simp only [List.length_map, List.length_append, List.length_take, List.length_cons, List.length_nil]; first | (refine ⟨by omega, ?_⟩; refine Nat.le_trans (Nat.mul_le_mul_left _ (show _ ≤ 512 by decide)) ?_; omega) | fail) ?_
    | refine AppN_of rfl rfl (by and_intros <;> rfl) (by simp only [List.length_map, List.length_append, List.length_take, List.length_cons, List.length_nil]; first | (refine ⟨by omega, ?_⟩; refine Nat.le_trans (Nat.mul_le_mul_left _ (show _ ≤ 512 by decide)) ?_; omega) | fail) ?_
    | (show False; omega)
  all_goals
    conv => whnf
    refine OutA_frz [12320, 16416, 20512] ?_
    conv => whnf
    exact OutA_plain rfl rfl rfl
theorem c_laws_eqState (x y : StateT) (hok : x.ok) : PC Tryz.prog false 54 [.agg x.cells, .agg y.cells] (.bool (decide (x = y))) [] := by
  refine pc_at Tryz.func54 rfl (by kernel_rfl) 28 [.tmp 4] rfl rfl ?_
  repeat' (conv => whnf); first
    | refine nameB_true ?_
    | refine nameB_false ?_
    | refine nameB_yes (by assumption) ?_
    | refine nameB_no (by assumption) ?_
    | refine nameB_dyes (by assumption) ?_
    | refine nameB_dno (by assumption) ?_
    | (refine nameB_dec (fun h => ?_) (fun h => ?_) <;> try simp only [List.length_map, List.length_take, List.length_append, List.length_drop, List.length_set, markList_length, midL_len, mkL_length, Int.toNat_natCast, fact_byte] at h)
    | (refine nameB_cases (fun h => ?_) (fun h => ?_) <;> try simp only [bne_iff_ne, ne_eq, bne_eq_false_iff_eq, beq_iff_eq, beq_eq_false_iff_ne, Bool.not_eq_true', Bool.not_eq_false', Bool.or_eq_true, Bool.or_eq_false_iff, List.length_map, List.length_take, List.length_append, List.length_drop, List.length_set, markList_length, midL_len, mkL_length, Int.toNat_natCast, fact_byte] at h)
    | refine splitB_true ?_
    | refine splitB_false ?_
    | (refine splitB_intro (fun h => ?_) (fun h => ?_) <;> subst h)
    | refine draw_text (by kernel_rfl) (by kernel_rfl) (by kernel_rfl) ?_
    | refine both_intro ?_ ?_
    | exact True.intro
    | (show Go.Ab.CallA _ _ _ _ _ _ _; first
        | refine Call0 (c_laws_eqCellS x.Cells y.Cells (hok.2.1)) rfl rfl ?_
        | refine Call0 (c_laws_eqHeldS x.Held y.Held (hok.2.2.1)) rfl rfl ?_
        | refine Call0 (c_laws_eqToldS x.Told y.Told (hok.2.2.2)) rfl rfl ?_)
    | refine ix_map_at hx ?_
    | refine ix_map_at hy ?_
    | refine sl_pre (by omega) (fun _ => rfl) ?_
    | refine sl_suf (by omega) (fun _ => rfl) ?_
    | (refine ix_map2 hx (by omega) (by (try simp only [List.length_take]); omega) (fun y hy => ?_); try simp only [Int.toNat_natCast] at hy)
    | (refine ix_map (by omega) (by (try simp only [List.length_take]); omega) (fun x hx => ?_); try simp only [Int.toNat_natCast] at hx)
    | refine side_and (side_of (by first | (and_intros <;> first | exact Nat.le_of_ble_eq_true rfl | rfl | omega | (simp only [List.length_map, List.length_append, List.length_replicate, List.length_take, List.length_cons, List.length_nil, List.length_drop, List.length_set, markList_length, midL_len, mkL_length]; omega) | exact bytes_ok (Nat.le_of_ble_eq_true rfl) (by omega) (by simp only [List.length_map, List.length_append, List.length_replicate, List.length_take, List.length_cons, List.length_nil, List.length_drop, List.length_set, markList_length, midL_len, mkL_length]; omega) | exact bytes_okN (Nat.le_of_ble_eq_true rfl) (by simp only [List.length_map, List.length_append, List.length_replicate, List.length_take, List.length_cons, List.length_nil, List.length_drop, List.length_set, markList_length, midL_len, mkL_length]; omega)) | fail)) ?_
    | refine nilB_intro (fun h => ?_) ?_
    | refine side_and (side_of (show Go.Ab.structOk _ _ = true by kernel_rfl)) ?_
    | refine side_and (side_of (map_len (fun _ => rfl))) ?_
    | refine side_and (side_of (map_one (fun _ => rfl) _)) ?_
    | refine side_and ?_ ?_
    | refine LoadK_of rfl rfl ?_
    | refine LoadD_cel rfl rfl rfl rfl ?_
    | refine LoadD_of rfl ?_
    | refine StoreD_of rfl rfl rfl ?_
    | refine AppD_of rfl (by and_intros <;> first | rfl | decide) (by simp only [List.length_map, List.length_append, List.length_take, List.length_cons, List.length_nil]; first | (refine ⟨by omega, ?_⟩; refine Nat.le_trans (Nat.mul_le_mul_left _ (show _ ≤ 512 by decide)) ?_; omega) | fail) ?_
    | refine AppN_of rfl rfl (by and_intros <;> rfl) (by simp only [List.length_map, List.length_append, List.length_take, List.length_cons, List.length_nil]; first | (refine ⟨by omega, ?_⟩; refine Nat.le_trans (Nat.mul_le_mul_left _ (show _ ≤ 512 by decide)) ?_; omega) | fail) ?_
    | (show False; omega)
  all_goals
    conv => whnf
    refine OutA_plain rfl rfl ?_
    first
    | exact bool_no (fun e => absurd (congrArg StateT.Floor e) (by assumption))
    | exact bool_no (fun e => absurd (congrArg StateT.Cells e) (by assumption))
    | exact bool_no (fun e => absurd (congrArg StateT.Held e) (by assumption))
    | exact bool_no (fun e => absurd (congrArg StateT.Told e) (by assumption))
    | exact bool_yes (StateT.same (by assumption) (by assumption) (by assumption) (by assumption))
theorem m_laws_markState (x : StateT) (k : Int) (h0 : 0 ≤ k) (h1 : StateT.cntS x k ≤ 1152921504606846976) : MC Tryz.prog 74 true x.cells StateT.shp k (StateT.mkS x k).cells (StateT.cntS x k) := by
  have hcx : StateT.cntS x k = k + (cntL CellT.cnt x.Cells : Int) + (cntL HeldT.cnt x.Held : Int) + (cntL ToldT.cnt x.Told : Int) := rfl
  refine mc_of Tryz.func74 rfl (by kernel_rfl) 18 [.tmp 4] [.int .i64 x.Floor, .own 0, .own 1, .own 2] rfl rfl (fun e => by first | rfl | cases e) rfl rfl ?_
  repeat' (conv => whnf); first
    | refine nameB_true ?_
    | refine nameB_false ?_
    | refine nameB_yes (by assumption) ?_
    | refine nameB_no (by assumption) ?_
    | refine nameB_dyes (by assumption) ?_
    | refine nameB_dno (by assumption) ?_
    | (refine nameB_dec (fun h => ?_) (fun h => ?_) <;> try simp only [List.length_map, List.length_take, List.length_append, List.length_drop, List.length_set, markList_length, midL_len, mkL_length, Int.toNat_natCast, fact_byte] at h)
    | (refine nameB_cases (fun h => ?_) (fun h => ?_) <;> try simp only [bne_iff_ne, ne_eq, bne_eq_false_iff_eq, beq_iff_eq, beq_eq_false_iff_ne, Bool.not_eq_true', Bool.not_eq_false', Bool.or_eq_true, Bool.or_eq_false_iff, List.length_map, List.length_take, List.length_append, List.length_drop, List.length_set, markList_length, midL_len, mkL_length, Int.toNat_natCast, fact_byte] at h)
    | refine splitB_true ?_
    | refine splitB_false ?_
    | (refine splitB_intro (fun h => ?_) (fun h => ?_) <;> subst h)
    | refine draw_text (by kernel_rfl) (by kernel_rfl) (by kernel_rfl) ?_
    | refine both_intro ?_ ?_
    | exact True.intro
    | (show Go.Ab.CallA _ _ _ _ _ _ _; first
        | refine CallM1 (m_laws_markCellS x.Cells k (by omega) (by omega) (by have hll := cntL_len_Cell x.Cells; omega)) [] trivial rfl rfl ?_
        | refine CallM1 (m_laws_markHeldS x.Held (k + (cntL CellT.cnt x.Cells : Int)) (by omega) (by omega) (by have hll := cntL_len_Held x.Held; omega)) [] trivial rfl rfl ?_
        | refine CallM1 (m_laws_markToldS x.Told (k + (cntL CellT.cnt x.Cells : Int) + (cntL HeldT.cnt x.Held : Int)) (by omega) (by omega) (by have hll := cntL_len_Told x.Told; omega)) [] trivial rfl rfl ?_)
    | refine ix_map_at hx ?_
    | refine ix_map_at hy ?_
    | refine sl_pre (by omega) (fun _ => rfl) ?_
    | refine sl_suf (by omega) (fun _ => rfl) ?_
    | (refine ix_map2 hx (by omega) (by (try simp only [List.length_take]); omega) (fun y hy => ?_); try simp only [Int.toNat_natCast] at hy)
    | (refine ix_map (by omega) (by (try simp only [List.length_take]); omega) (fun x hx => ?_); try simp only [Int.toNat_natCast] at hx)
    | refine side_and (side_of (by first | (and_intros <;> first | exact Nat.le_of_ble_eq_true rfl | rfl | omega | (simp only [List.length_map, List.length_append, List.length_replicate, List.length_take, List.length_cons, List.length_nil, List.length_drop, List.length_set, markList_length, midL_len, mkL_length]; omega) | exact bytes_ok (Nat.le_of_ble_eq_true rfl) (by omega) (by simp only [List.length_map, List.length_append, List.length_replicate, List.length_take, List.length_cons, List.length_nil, List.length_drop, List.length_set, markList_length, midL_len, mkL_length]; omega) | exact bytes_okN (Nat.le_of_ble_eq_true rfl) (by simp only [List.length_map, List.length_append, List.length_replicate, List.length_take, List.length_cons, List.length_nil, List.length_drop, List.length_set, markList_length, midL_len, mkL_length]; omega)) | fail)) ?_
    | refine nilB_intro (fun h => ?_) ?_
    | refine side_and (side_of (show Go.Ab.structOk _ _ = true by kernel_rfl)) ?_
    | refine side_and (side_of (map_len (fun _ => rfl))) ?_
    | refine side_and (side_of (map_one (fun _ => rfl) _)) ?_
    | refine side_and ?_ ?_
    | refine LoadK_of rfl rfl ?_
    | refine LoadD_cel rfl rfl rfl rfl ?_
    | refine LoadD_of rfl ?_
    | refine StoreD_of rfl rfl rfl ?_
    | refine AppD_of rfl (by and_intros <;> first | rfl | decide) (by simp only [List.length_map, List.length_append, List.length_take, List.length_cons, List.length_nil]; first | (refine ⟨by omega, ?_⟩; refine Nat.le_trans (Nat.mul_le_mul_left _ (show _ ≤ 512 by decide)) ?_; omega) | fail) ?_
    | refine AppN_of rfl rfl (by and_intros <;> rfl) (by simp only [List.length_map, List.length_append, List.length_take, List.length_cons, List.length_nil]; first | (refine ⟨by omega, ?_⟩; refine Nat.le_trans (Nat.mul_le_mul_left _ (show _ ≤ 512 by decide)) ?_; omega) | fail) ?_
    | (show False; omega)
  all_goals
    conv => whnf
    exact OutM_of (by rfl) (by rfl) (by rfl) (by rfl) (by rfl)
structure EntryT where
  Term : Int
  Rec : RecT
deriving DecidableEq
def EntryT.cells (x : EntryT) : List AV := [.int .i64 x.Term, .int .i64 x.Rec.Kind, .int .i64 x.Rec.Txn, .int .i64 x.Rec.Time, .int .i64 x.Rec.Lead, .sl (x.Rec.Reads.map strC), .sl (x.Rec.Writes.map WriteT.cells), .bool x.Rec.Yes]
def EntryT.ok (x : EntryT) : Prop := okT x.Term ∧ RecT.ok x.Rec
def EntryT.w (x : EntryT) : Nat := RecT.w x.Rec
theorem EntryT.same {x y : EntryT} (hTerm : x.Term = y.Term) (hRec : x.Rec = y.Rec) : x = y := by cases x; cases y; simp_all
def EntryT.shp : List Shp := [.leaf, .leaf, .leaf, .leaf, .leaf, .sl 9 1 [.leaf], .sl 193 3 WriteT.shp, .leaf]
def EntryT.mkM (x : EntryT) (k : Int) : EntryT := ⟨k, ⟨k + 1, k + 1 + 1, k + 1 + 1 + 1, k + 1 + 1 + 1 + 1, mkL mkStr cnt1 x.Rec.Reads (k + 1 + 1 + 1 + 1 + 1), mkL WriteT.mkM WriteT.cnt x.Rec.Writes (k + 1 + 1 + 1 + 1 + 1 + (cntL cnt1 x.Rec.Reads : Int)), ((k + 1 + 1 + 1 + 1 + 1 + (cntL cnt1 x.Rec.Reads : Int) + (cntL WriteT.cnt x.Rec.Writes : Int)).tmod 3 == 0)⟩⟩
def EntryT.cnt (x : EntryT) : Nat := 1 + 1 + 1 + 1 + 1 + cntL cnt1 x.Rec.Reads + cntL WriteT.cnt x.Rec.Writes + 1
def EntryT.mkS (x : EntryT) (k : Int) : EntryT := ⟨x.Term, ⟨x.Rec.Kind, x.Rec.Txn, x.Rec.Time, x.Rec.Lead, mkL mkStr cnt1 x.Rec.Reads k, mkL WriteT.mkM WriteT.cnt x.Rec.Writes (k + (cntL cnt1 x.Rec.Reads : Int)), x.Rec.Yes⟩⟩
def EntryT.cntS (x : EntryT) (k : Int) : Int := k + (cntL cnt1 x.Rec.Reads : Int) + (cntL WriteT.cnt x.Rec.Writes : Int)
theorem EntryT.cnt_w (x : EntryT) : EntryT.cnt x ≤ 100 * (1 + EntryT.w x) := by
  have h0 := cntL_w100 (cnt := cnt1) (w := List.length) (fun _ => one_w100) x.Rec.Reads
  have h1 := cntL_w100 (cnt := WriteT.cnt) (w := WriteT.w) (fun y => WriteT.cnt_w y) x.Rec.Writes
  simp only [EntryT.cnt, RecT.cnt, EntryT.w, RecT.w] at *
  omega
theorem EntryT.cntS_w (x : EntryT) (k : Int) : EntryT.cntS x k ≤ k + 100 * (1 + (EntryT.w x : Int)) := by
  have h0 := cntL_w100 (cnt := cnt1) (w := List.length) (fun _ => one_w100) x.Rec.Reads
  have h1 := cntL_w100 (cnt := WriteT.cnt) (w := WriteT.w) (fun y => WriteT.cnt_w y) x.Rec.Writes
  simp only [EntryT.cntS, EntryT.cnt, RecT.cnt, EntryT.w, RecT.w] at *
  omega
end Go.Proofs.YtbkjmcfkllljoaaGreat
