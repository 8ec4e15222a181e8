/-
  What the functions that encode records and entries give.
  No condition.
-/
import Derived.Test.YtfpkfnfgloonhaaGreatBytes
import Derived.Test.YtfpkfnfgloonhaaGreatState7
namespace Go.Proofs.YtfpkfnfgloonhaaGreat
open Go.Ab
set_option linter.unusedSimpArgs false
set_option maxRecDepth 20000
set_option maxHeartbeats 4000000
set_option linter.unusedVariables false

def wB (w : WriteT) : List UInt8 := textB w.Key ++ flagB w.Gone ++ textB w.Val
def wG (ws : List WriteT) : List UInt8 := (ws.map wB).flatten
def recH (r : RecT) : List UInt8 := numB r.Kind ++ numB r.Txn ++ numB r.Time ++ numB r.Lead ++ flagB r.Yes ++ textsB r.Reads ++ numB (r.Writes.length : Nat)
def recB (r : RecT) : List UInt8 := sealB (recH r ++ wG r.Writes)
def entB (e : EntryT) : List UInt8 := numB e.Term ++ recB e.Rec
theorem wB_len (w : WriteT) : (wB w).length ≤ 2 * (w.Key.length + w.Val.length) + 3 := by
  have h1 := textB_len w.Key
  have h2 := textB_len w.Val
  unfold wB
  rw [List.length_append, List.length_append, flagB_len]
  omega
theorem wG_len (ws : List WriteT) : (wG ws).length ≤ 4 * wL WriteT.w ws := by
  unfold wG wL
  induction ws with
  | nil => simp
  | cons x l ih =>
    have := wB_len x
    have e : WriteT.w x = x.Key.length + x.Val.length := rfl
    simp only [List.map_cons, List.flatten_cons, List.length_append, List.length_cons, List.sum_cons] at ih ⊢
    omega
theorem wG_take (ws : List WriteT) (k : Nat) : (wG (ws.take k)).length ≤ (wG ws).length := by
  conv => rhs; rw [← List.take_append_drop k ws]
  unfold wG
  rw [List.map_append, List.flatten_append, List.length_append]
  omega
theorem wG_next {ws : List WriteT} {k : Nat} {x : WriteT} {A : List UInt8} (hx : ws[k]? = some x) : (A ++ wG (ws.take k)) ++ (textB x.Key ++ flagB x.Gone ++ textB x.Val) = A ++ wG (ws.take (k + 1)) := by
  unfold wG
  rw [take_get hx, List.map_append, List.flatten_append, List.append_assoc]
  simp [wB]
theorem rec_nums {r : RecT} (h : okRec r = true) : (0 ≤ r.Kind ∧ r.Kind ≤ 4) ∧ (0 ≤ r.Txn ∧ r.Txn ≤ 60) ∧ (0 ≤ r.Time ∧ r.Time ≤ 1048576) ∧ (0 ≤ r.Lead ∧ r.Lead ≤ 3) := by
  unfold okRec at h
  split at h
  · simp only [Bool.and_eq_true, okTime, inB, decide_eq_true_eq] at h
    omega
  · simp only [Bool.and_eq_true, decide_eq_true_eq] at h
    obtain ⟨⟨⟨h1, _⟩, _⟩, h2⟩ := h
    split at h2
    · rename_i hk
      simp only [Bool.and_eq_true, inB, decide_eq_true_eq] at h2
      have h3 := h2.2
      split at h3
      · simp only [okTime, inB, Bool.and_eq_true, decide_eq_true_eq] at h3; omega
      · simp only [decide_eq_true_eq] at h3; omega
    · simp only [Bool.and_eq_true, okTime, inB, decide_eq_true_eq] at h2
      omega
theorem textsB_len (l : List (List UInt8)) : (textsB l).length ≤ l.length + 1 + 2 * wL List.length l := by
  have h1 := numB_len (l.length : Nat)
  have h2 := textsG_len l
  unfold textsB
  rw [List.length_append]
  omega
theorem rec_w {r : RecT} (hw : r.w ≤ 1048576) : wL List.length r.Reads ≤ 1048576 ∧ wL WriteT.w r.Writes ≤ 1048576 := by
  have e : r.w = wL List.length r.Reads + wL WriteT.w r.Writes := rfl
  omega
theorem recH_len {r : RecT} (hg : okRec r = true) (hw : r.w ≤ 1048576) : (recH r).length ≤ 20000000 := by
  obtain ⟨⟨k0, k1⟩, ⟨t0, t1⟩, ⟨m0, m1⟩, ⟨l0, l1⟩⟩ := rec_nums hg
  obtain ⟨e1, e2⟩ := rec_w hw
  have e3 : r.Writes.length ≤ wL WriteT.w r.Writes := wL_len
  have e4 : r.Reads.length ≤ wL List.length r.Reads := wL_len
  have a1 := numB_len r.Kind
  have a2 := numB_len r.Txn
  have a3 := numB_len r.Time
  have a4 := numB_len r.Lead
  have a5 := flagB_len r.Yes
  have a6 := textsB_len r.Reads
  have a7 := numB_len (r.Writes.length : Nat)
  unfold recH
  simp only [List.length_append]
  omega
theorem wk_len {ws : List WriteT} {k : Nat} {y : WriteT} (hy : ws[k]? = some y) : y.Key.length + y.Val.length ≤ wL WriteT.w ws := (wL_mem (w := WriteT.w) (List.mem_of_getElem? hy)).2
theorem c_impl_recBytes (r : RecT) (hg : okRec r = true) (hw : r.w ≤ 1048576) : PC Tryz.prog false 154 [.agg r.cells] (.str (recB r)) [] := by
  obtain ⟨⟨k0, k1⟩, ⟨t0, t1⟩, ⟨m0, m1⟩, ⟨l0, l1⟩⟩ := rec_nums hg
  obtain ⟨e1, e2⟩ := rec_w hw
  have e3 : r.Writes.length ≤ wL WriteT.w r.Writes := wL_len
  have e4 : r.Reads.length ≤ wL List.length r.Reads := wL_len
  have a1 := numB_len r.Kind
  have a2 := numB_len r.Txn
  have a3 := numB_len r.Time
  have a4 := numB_len r.Lead
  have a5 := flagB_len r.Yes
  have a6 := textsB_len r.Reads
  have a7 := numB_len (r.Writes.length : Nat)
  have a8 := wG_len r.Writes
  have a9 := recH_len hg hw
  refine pc_at Tryz.func154 rfl (by kernel_rfl) 57 [.tmp 2] rfl rfl ?_
  repeat' (conv => whnf); first
    | exact side_of (by first | (have b1 := textB_len y.Key; have b2 := textB_len y.Val; have b3 := flagB_len y.Gone; have b4 := wG_take r.Writes k; (try simp only [List.length_append]); omega) | (simp only [List.length_append]; omega) | fail)
    | refine nameB_self (b := r.Yes) ?_
    | refine nameB_self (b := y.Gone) ?_
    | (refine ix_as (f := WriteT.cells) (m := k) rfl (by omega) (fun y hy => ?_); have hyw := wk_len hy)
    | refine nameB_true ?_
    | refine nameB_false ?_
    | refine nameB_yes (by assumption) ?_
    | refine nameB_no (by assumption) ?_
    | refine nameB_dyes (by assumption) ?_
    | refine nameB_dno (by assumption) ?_
    | (refine nameB_dec (fun h => ?_) (fun h => ?_) <;> try simp only [lensB, midL_len, mkL_length, Int.toNat_natCast, fact_byte] at h)
    | (refine nameB_cases (fun h => ?_) (fun h => ?_) <;> try simp only [bne_iff_ne, ne_eq, bne_eq_false_iff_eq, beq_iff_eq, beq_eq_false_iff_ne, Bool.not_eq_true', Bool.not_eq_false', Bool.or_eq_true, Bool.or_eq_false_iff, lensB, midL_len, mkL_length, Int.toNat_natCast, fact_byte] at h)
    | refine splitB_true ?_
    | refine splitB_false ?_
    | (refine splitB_intro (fun h => ?_) (fun h => ?_) <;> subst h)
    | refine draw_text (by kernel_rfl) (by kernel_rfl) (by kernel_rfl) ?_
    | refine both_intro ?_ ?_
    | refine eitherB_l ?_
    | exact True.intro
    | (show Go.Ab.Loop _ _ _; (refine Loop_at [35, 36] [] (Nat) (fun k => k ≤ r.Writes.length) (fun k => [(37, .int .i64 (k : Nat)), (3, .str (recH r ++ wG (r.Writes.take k)))]) (fun k => []) (fun k => r.Writes.length - k) 0 ⟨by first | first | exact congrArg AV.str (wG_next hy) | exact congrArg AV.str (by simp [wG, recH]) | rfl | fail, by first | rfl | first | exact congrArg AV.str (wG_next hy) | exact congrArg AV.str (by simp [wG, recH]) | fail, trivial⟩ trivial (by (try dsimp only); first | (exact Nat.zero_le _) | fail) ?_; (conv => whnf); refine side_and (side_of (by first | exact fun k => rfl | exact fun k => by simp [headOk, closedE, closedO, closedL, AV.closed, hcap.closed, hasId, AObj.box, BK.ofB])) ?_; rintro k hT; try dsimp only at hT))
    | (show Go.Ab.Again _ _ _ _ _ _ _ _ _ _ _; refine Again_of (k + 1) ⟨by first | rfl | exact i64_next (by omega) | first | exact congrArg AV.str (wG_next hy) | exact congrArg AV.str (by simp [wG, recH]) | fail, by first | rfl | first | exact congrArg AV.str (wG_next hy) | exact congrArg AV.str (by simp [wG, recH]) | fail, trivial⟩ trivial (by first | (and_intros <;> first | rfl | trivial) | fail) (by first | (and_intros <;> first | rfl | trivial) | fail) rfl rfl rfl (by (try dsimp only); first | ((show k + 1 ≤ _; omega)) | fail) (show _ < _ by (try dsimp only); omega))
    | (show Go.Ab.CallA _ _ _ _ _ _ _; first
        | refine Call0 (c_impl_numBytes r.Kind k0 (by omega)) rfl rfl ?_
        | refine Call0 (c_impl_numBytes r.Txn t0 (by omega)) rfl rfl ?_
        | refine Call0 (c_impl_numBytes r.Time m0 (by omega)) rfl rfl ?_
        | refine Call0 (c_impl_numBytes r.Lead l0 (by omega)) rfl rfl ?_
        | refine Call0 (c_impl_flagByte r.Yes) rfl rfl ?_
        | refine Call0 (c_impl_textsBytes r.Reads e1) rfl rfl ?_
        | refine Call0 (c_impl_textBytes y.Key (by omega)) rfl rfl ?_
        | refine Call0 (c_impl_flagByte y.Gone) rfl rfl ?_
        | refine Call0 (c_impl_textBytes y.Val (by omega)) rfl rfl ?_
        | refine Call0 (c_impl_seal (recH r ++ wG r.Writes) (by rw [List.length_append]; omega)) (congrArg (fun m : List WriteT => [AV.str (recH r ++ wG m)]) (List.take_of_length_le (by omega))) rfl ?_)
    | (show Go.Ab.CallD _ _ _ _ _ _ _; first
        | refine CallD0 (c_impl_numBytes (r.Writes.length : Nat) (by omega) (by omega)) (congrArg (fun n : Nat => [AV.int .i64 (n : Int)]) (List.length_map WriteT.cells)) rfl rfl ?_
        | refine CallD0 (c_impl_numBytes r.Kind k0 (by omega)) rfl rfl rfl ?_
        | refine CallD0 (c_impl_numBytes r.Txn t0 (by omega)) rfl rfl rfl ?_
        | refine CallD0 (c_impl_numBytes r.Time m0 (by omega)) rfl rfl rfl ?_
        | refine CallD0 (c_impl_numBytes r.Lead l0 (by omega)) rfl rfl rfl ?_
        | refine CallD0 (c_impl_flagByte r.Yes) rfl rfl rfl ?_
        | refine CallD0 (c_impl_textsBytes r.Reads e1) rfl rfl rfl ?_
        | refine CallD0 (c_impl_textBytes y.Key (by omega)) rfl rfl rfl ?_
        | refine CallD0 (c_impl_flagByte y.Gone) rfl rfl rfl ?_
        | refine CallD0 (c_impl_textBytes y.Val (by omega)) rfl rfl rfl ?_
        | refine CallD0 (c_impl_seal (recH r ++ wG r.Writes) (by rw [List.length_append]; omega)) (congrArg (fun m : List WriteT => [AV.str (recH r ++ wG m)]) (List.take_of_length_le (by omega))) rfl ?_)
    | refine ix_map_at hx ?_
    | refine ix_map_at hy ?_
    | refine sl_pre (by omega) (fun _ => rfl) ?_
    | refine sl_suf (by omega) (fun _ => rfl) ?_
    | (refine ix_map2 hx (by omega) (by (try simp only [List.length_take]); omega) (fun y hy => ?_); try simp only [Int.toNat_natCast] at hy)
    | (refine ix_map (by omega) (by (try simp only [List.length_take]); omega) (fun x hx => ?_); try simp only [Int.toNat_natCast] at hx)
    | refine side_and (side_of (by first | (and_intros <;> first | exact Nat.le_of_ble_eq_true rfl | rfl | omega | (simp only [lensB, lensC, List.length_replicate, midL_len, mkL_length]; omega) | exact bytes_ok (Nat.le_of_ble_eq_true rfl) (by omega) (by simp only [lensB, lensC, List.length_replicate, midL_len, mkL_length]; omega) | exact bytes_okN (Nat.le_of_ble_eq_true rfl) (by simp only [lensB, lensC, List.length_replicate, midL_len, mkL_length]; omega)) | fail)) ?_
    | refine nilB_intro (fun h => ?_) ?_
    | refine side_and (side_of (show Go.Ab.structOk _ _ = true by kernel_rfl)) ?_
    | refine side_and (side_of (map_len (fun _ => rfl))) ?_
    | refine side_and (side_of (map_one (fun _ => rfl) _)) ?_
    | refine side_and ?_ ?_
    | refine LoadK_of rfl rfl ?_
    | refine LoadD_cel rfl rfl rfl rfl ?_
    | refine LoadD_of rfl ?_
    | refine StoreD_of rfl rfl rfl ?_
    | refine AppD_of rfl (by and_intros <;> first | rfl | decide) (by simp only [lensC]; first | (refine ⟨by omega, ?_⟩; refine Nat.le_trans (Nat.mul_le_mul_left _ (show _ ≤ 512 by decide)) ?_; omega) | fail) ?_
    | refine AppN_of rfl rfl (by and_intros <;> rfl) (by simp only [lensC]; first | (refine ⟨by omega, ?_⟩; refine Nat.le_trans (Nat.mul_le_mul_left _ (show _ ≤ 512 by decide)) ?_; omega) | fail) ?_
    | (show False; omega)
  all_goals
    conv => whnf
    exact OutA_plain rfl rfl rfl
theorem c_spec_l4Bytes (r : RecT) (hg : okRec r = true) (hw : r.w ≤ 1048576) : PC Tryz.prog false 132 [.agg r.cells] (.str (recB r)) [] := by
  obtain ⟨⟨k0, k1⟩, ⟨t0, t1⟩, ⟨m0, m1⟩, ⟨l0, l1⟩⟩ := rec_nums hg
  obtain ⟨e1, e2⟩ := rec_w hw
  have e3 : r.Writes.length ≤ wL WriteT.w r.Writes := wL_len
  have e4 : r.Reads.length ≤ wL List.length r.Reads := wL_len
  have a1 := numB_len r.Kind
  have a2 := numB_len r.Txn
  have a3 := numB_len r.Time
  have a4 := numB_len r.Lead
  have a5 := flagB_len r.Yes
  have a6 := textsB_len r.Reads
  have a7 := numB_len (r.Writes.length : Nat)
  have a8 := wG_len r.Writes
  have a9 := recH_len hg hw
  refine pc_at Tryz.func132 rfl (by kernel_rfl) 57 [.tmp 2] rfl rfl ?_
  repeat' (conv => whnf); first
    | exact side_of (by first | (have b1 := textB_len y.Key; have b2 := textB_len y.Val; have b3 := flagB_len y.Gone; have b4 := wG_take r.Writes k; (try simp only [List.length_append]); omega) | (simp only [List.length_append]; omega) | fail)
    | refine nameB_self (b := r.Yes) ?_
    | refine nameB_self (b := y.Gone) ?_
    | (refine ix_as (f := WriteT.cells) (m := k) rfl (by omega) (fun y hy => ?_); have hyw := wk_len hy)
    | refine nameB_true ?_
    | refine nameB_false ?_
    | refine nameB_yes (by assumption) ?_
    | refine nameB_no (by assumption) ?_
    | refine nameB_dyes (by assumption) ?_
    | refine nameB_dno (by assumption) ?_
    | (refine nameB_dec (fun h => ?_) (fun h => ?_) <;> try simp only [lensB, midL_len, mkL_length, Int.toNat_natCast, fact_byte] at h)
    | (refine nameB_cases (fun h => ?_) (fun h => ?_) <;> try simp only [bne_iff_ne, ne_eq, bne_eq_false_iff_eq, beq_iff_eq, beq_eq_false_iff_ne, Bool.not_eq_true', Bool.not_eq_false', Bool.or_eq_true, Bool.or_eq_false_iff, lensB, midL_len, mkL_length, Int.toNat_natCast, fact_byte] at h)
    | refine splitB_true ?_
    | refine splitB_false ?_
    | (refine splitB_intro (fun h => ?_) (fun h => ?_) <;> subst h)
    | refine draw_text (by kernel_rfl) (by kernel_rfl) (by kernel_rfl) ?_
    | refine both_intro ?_ ?_
    | refine eitherB_l ?_
    | exact True.intro
    | (show Go.Ab.Loop _ _ _; (refine Loop_at [35, 36] [] (Nat) (fun k => k ≤ r.Writes.length) (fun k => [(37, .int .i64 (k : Nat)), (3, .str (recH r ++ wG (r.Writes.take k)))]) (fun k => []) (fun k => r.Writes.length - k) 0 ⟨by first | first | exact congrArg AV.str (wG_next hy) | exact congrArg AV.str (by simp [wG, recH]) | rfl | fail, by first | rfl | first | exact congrArg AV.str (wG_next hy) | exact congrArg AV.str (by simp [wG, recH]) | fail, trivial⟩ trivial (by (try dsimp only); first | (exact Nat.zero_le _) | fail) ?_; (conv => whnf); refine side_and (side_of (by first | exact fun k => rfl | exact fun k => by simp [headOk, closedE, closedO, closedL, AV.closed, hcap.closed, hasId, AObj.box, BK.ofB])) ?_; rintro k hT; try dsimp only at hT))
    | (show Go.Ab.Again _ _ _ _ _ _ _ _ _ _ _; refine Again_of (k + 1) ⟨by first | rfl | exact i64_next (by omega) | first | exact congrArg AV.str (wG_next hy) | exact congrArg AV.str (by simp [wG, recH]) | fail, by first | rfl | first | exact congrArg AV.str (wG_next hy) | exact congrArg AV.str (by simp [wG, recH]) | fail, trivial⟩ trivial (by first | (and_intros <;> first | rfl | trivial) | fail) (by first | (and_intros <;> first | rfl | trivial) | fail) rfl rfl rfl (by (try dsimp only); first | ((show k + 1 ≤ _; omega)) | fail) (show _ < _ by (try dsimp only); omega))
    | (show Go.Ab.CallA _ _ _ _ _ _ _; first
        | refine Call0 (c_spec_l1NumB r.Kind k0 (by omega)) rfl rfl ?_
        | refine Call0 (c_spec_l1NumB r.Txn t0 (by omega)) rfl rfl ?_
        | refine Call0 (c_spec_l1NumB r.Time m0 (by omega)) rfl rfl ?_
        | refine Call0 (c_spec_l1NumB r.Lead l0 (by omega)) rfl rfl ?_
        | refine Call0 (c_spec_l4Flag r.Yes) rfl rfl ?_
        | refine Call0 (c_spec_l1TextsB r.Reads e1) rfl rfl ?_
        | refine Call0 (c_spec_l1TextB y.Key (by omega)) rfl rfl ?_
        | refine Call0 (c_spec_l4Flag y.Gone) rfl rfl ?_
        | refine Call0 (c_spec_l1TextB y.Val (by omega)) rfl rfl ?_
        | refine Call0 (c_spec_l1Seal (recH r ++ wG r.Writes) (by rw [List.length_append]; omega)) (congrArg (fun m : List WriteT => [AV.str (recH r ++ wG m)]) (List.take_of_length_le (by omega))) rfl ?_)
    | (show Go.Ab.CallD _ _ _ _ _ _ _; first
        | refine CallD0 (c_spec_l1NumB (r.Writes.length : Nat) (by omega) (by omega)) (congrArg (fun n : Nat => [AV.int .i64 (n : Int)]) (List.length_map WriteT.cells)) rfl rfl ?_
        | refine CallD0 (c_spec_l1NumB r.Kind k0 (by omega)) rfl rfl rfl ?_
        | refine CallD0 (c_spec_l1NumB r.Txn t0 (by omega)) rfl rfl rfl ?_
        | refine CallD0 (c_spec_l1NumB r.Time m0 (by omega)) rfl rfl rfl ?_
        | refine CallD0 (c_spec_l1NumB r.Lead l0 (by omega)) rfl rfl rfl ?_
        | refine CallD0 (c_spec_l4Flag r.Yes) rfl rfl rfl ?_
        | refine CallD0 (c_spec_l1TextsB r.Reads e1) rfl rfl rfl ?_
        | refine CallD0 (c_spec_l1TextB y.Key (by omega)) rfl rfl rfl ?_
        | refine CallD0 (c_spec_l4Flag y.Gone) rfl rfl rfl ?_
        | refine CallD0 (c_spec_l1TextB y.Val (by omega)) rfl rfl rfl ?_
        | refine CallD0 (c_spec_l1Seal (recH r ++ wG r.Writes) (by rw [List.length_append]; omega)) (congrArg (fun m : List WriteT => [AV.str (recH r ++ wG m)]) (List.take_of_length_le (by omega))) rfl ?_)
    | refine ix_map_at hx ?_
    | refine ix_map_at hy ?_
    | refine sl_pre (by omega) (fun _ => rfl) ?_
    | refine sl_suf (by omega) (fun _ => rfl) ?_
    | (refine ix_map2 hx (by omega) (by (try simp only [List.length_take]); omega) (fun y hy => ?_); try simp only [Int.toNat_natCast] at hy)
    | (refine ix_map (by omega) (by (try simp only [List.length_take]); omega) (fun x hx => ?_); try simp only [Int.toNat_natCast] at hx)
    | refine side_and (side_of (by first | (and_intros <;> first | exact Nat.le_of_ble_eq_true rfl | rfl | omega | (simp only [lensB, lensC, List.length_replicate, midL_len, mkL_length]; omega) | exact bytes_ok (Nat.le_of_ble_eq_true rfl) (by omega) (by simp only [lensB, lensC, List.length_replicate, midL_len, mkL_length]; omega) | exact bytes_okN (Nat.le_of_ble_eq_true rfl) (by simp only [lensB, lensC, List.length_replicate, midL_len, mkL_length]; omega)) | fail)) ?_
    | refine nilB_intro (fun h => ?_) ?_
    | refine side_and (side_of (show Go.Ab.structOk _ _ = true by kernel_rfl)) ?_
    | refine side_and (side_of (map_len (fun _ => rfl))) ?_
    | refine side_and (side_of (map_one (fun _ => rfl) _)) ?_
    | refine side_and ?_ ?_
    | refine LoadK_of rfl rfl ?_
    | refine LoadD_cel rfl rfl rfl rfl ?_
    | refine LoadD_of rfl ?_
    | refine StoreD_of rfl rfl rfl ?_
    | refine AppD_of rfl (by and_intros <;> first | rfl | decide) (by simp only [lensC]; first | (refine ⟨by omega, ?_⟩; refine Nat.le_trans (Nat.mul_le_mul_left _ (show _ ≤ 512 by decide)) ?_; omega) | fail) ?_
    | refine AppN_of rfl rfl (by and_intros <;> rfl) (by simp only [lensC]; first | (refine ⟨by omega, ?_⟩; refine Nat.le_trans (Nat.mul_le_mul_left _ (show _ ≤ 512 by decide)) ?_; omega) | fail) ?_
    | (show False; omega)
  all_goals
    conv => whnf
    exact OutA_plain rfl rfl rfl
def okEnt (e : EntryT) : Bool := inB 1 e.Term 200 && okRec e.Rec
def entR (e : EntryT) : List UInt8 := match okEnt e with | true => entB e | false => []
end Go.Proofs.YtfpkfnfgloonhaaGreat
