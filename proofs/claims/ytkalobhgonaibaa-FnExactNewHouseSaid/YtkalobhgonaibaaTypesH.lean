/-
  What the laws' functions on House give.
  No condition.
-/
import Derived.Test.YtkalobhgonaibaaTypesC
import Derived.Test.YtkalobhgonaibaaTypesL
import Derived.Test.YtkalobhgonaibaaProg
import Derived.KernelRfl
namespace Go.Proofs.Ytkalobhgonaibaa
open Go.Ab
set_option linter.unusedSimpArgs false
set_option maxRecDepth 20000
set_option maxHeartbeats 4000000
set_option linter.unusedVariables false

structure HouseT where
  Group : GroupT
  Disks : List DiskT
deriving DecidableEq
def HouseT.cells (x : HouseT) : List AV := [.sl (x.Group.Reps.map ReplicaT.cells), .int .i64 x.Group.Term, .int .i64 x.Group.Lead, .sl (x.Disks.map DiskT.cells)]
def HouseT.ok (x : HouseT) : Prop := GroupT.ok x.Group ∧ (okL DiskT.ok) x.Disks
def HouseT.w (x : HouseT) : Nat := GroupT.w x.Group + wL DiskT.w x.Disks
theorem HouseT.same {x y : HouseT} (hGroup : x.Group = y.Group) (hDisks : x.Disks = y.Disks) : x = y := by cases x; cases y; simp_all
def HouseT.shp : List Shp := [.sl 101 3 ReplicaT.shp, .leaf, .leaf, .sl 106 2 DiskT.shp]
def HouseT.mkM (x : HouseT) (k : Int) : HouseT := ⟨⟨mkL ReplicaT.mkM ReplicaT.cnt x.Group.Reps k, k + (cntL ReplicaT.cnt x.Group.Reps : Int), k + (cntL ReplicaT.cnt x.Group.Reps : Int) + 1⟩, mkL DiskT.mkM DiskT.cnt x.Disks (k + (cntL ReplicaT.cnt x.Group.Reps : Int) + 1 + 1)⟩
def HouseT.cnt (x : HouseT) : Nat := cntL ReplicaT.cnt x.Group.Reps + 1 + 1 + cntL DiskT.cnt x.Disks
theorem cntL_len_House (xs : List HouseT) : xs.length ≤ cntL HouseT.cnt xs := by
  induction xs with
  | nil => exact Nat.zero_le _
  | cons x xs ih =>
    simp only [cntL, List.map_cons, List.sum_cons, List.length_cons] at ih ⊢
    have hcx : HouseT.cnt x = cntL ReplicaT.cnt x.Group.Reps + 1 + 1 + cntL DiskT.cnt x.Disks := rfl
    omega
def HouseT.mkS (x : HouseT) (k : Int) : HouseT := ⟨⟨mkL ReplicaT.mkM ReplicaT.cnt x.Group.Reps k, x.Group.Term, x.Group.Lead⟩, mkL DiskT.mkM DiskT.cnt x.Disks (k + (cntL ReplicaT.cnt x.Group.Reps : Int))⟩
def HouseT.cntS (x : HouseT) (k : Int) : Int := k + (cntL ReplicaT.cnt x.Group.Reps : Int) + (cntL DiskT.cnt x.Disks : Int)
theorem HouseT.cnt_w (x : HouseT) : HouseT.cnt x ≤ 100 * (1 + HouseT.w x) := by
  have h0 := cntL_w100 (cnt := ReplicaT.cnt) (w := ReplicaT.w) (fun y => ReplicaT.cnt_w y) x.Group.Reps
  have h1 := cntL_w100 (cnt := DiskT.cnt) (w := DiskT.w) (fun y => DiskT.cnt_w y) x.Disks
  simp only [GroupT.cnt, HouseT.cnt, GroupT.w, HouseT.w] at *
  omega
theorem HouseT.cntS_w (x : HouseT) (k : Int) : HouseT.cntS x k ≤ k + 100 * (1 + (HouseT.w x : Int)) := by
  have h0 := cntL_w100 (cnt := ReplicaT.cnt) (w := ReplicaT.w) (fun y => ReplicaT.cnt_w y) x.Group.Reps
  have h1 := cntL_w100 (cnt := DiskT.cnt) (w := DiskT.w) (fun y => DiskT.cnt_w y) x.Disks
  simp only [HouseT.cntS, GroupT.cnt, HouseT.cnt, GroupT.w, HouseT.w] at *
  omega
theorem c_laws_eqHouse (x y : HouseT) (hok : x.ok) : PC Try.prog false 29 [.agg x.cells, .agg y.cells] (.bool (decide (x = y))) [] := by
  refine pc_at Try.func29 rfl (by kernel_rfl) 17 [.tmp 4] rfl rfl ?_
  repeat' (conv => whnf); first
    | refine nameB_true ?_
    | refine nameB_false ?_
    | refine nameB_yes (by assumption) ?_
    | refine nameB_no (by assumption) ?_
    | refine nameB_dyes (by assumption) ?_
    | refine nameB_dno (by assumption) ?_
    | (refine nameB_dec (fun h => ?_) (fun h => ?_) <;> try simp only [List.length_map, List.length_take, List.length_append, List.length_drop, List.length_set, markList_length, midL_len, mkL_length, Int.toNat_natCast, fact_byte] at h)
    | (refine nameB_cases (fun h => ?_) (fun h => ?_) <;> try simp only [bne_iff_ne, ne_eq, bne_eq_false_iff_eq, beq_iff_eq, beq_eq_false_iff_ne, Bool.not_eq_true', Bool.not_eq_false', Bool.or_eq_true, Bool.or_eq_false_iff, List.length_map, List.length_take, List.length_append, List.length_drop, List.length_set, markList_length, midL_len, mkL_length, Int.toNat_natCast, fact_byte] at h)
    | refine splitB_true ?_
    | refine splitB_false ?_
    | (refine splitB_intro (fun h => ?_) (fun h => ?_) <;> subst h)
    | refine draw_text (by kernel_rfl) (by kernel_rfl) (by kernel_rfl) ?_
    | refine both_intro ?_ ?_
    | exact True.intro
    | (show Go.Ab.CallA _ _ _ _ _ _ _; first
        | refine Call0 (c_laws_eqGroup x.Group y.Group (hok.1)) rfl rfl ?_
        | refine Call0 (c_laws_eqDiskS x.Disks y.Disks (hok.2)) rfl rfl ?_)
    | refine ix_map_at hx ?_
    | refine ix_map_at hy ?_
    | refine sl_pre (by omega) (fun _ => rfl) ?_
    | refine sl_suf (by omega) (fun _ => rfl) ?_
    | (refine ix_map2 hx (by omega) (by (try simp only [List.length_take]); omega) (fun y hy => ?_); try simp only [Int.toNat_natCast] at hy)
    | (refine ix_map (by omega) (by (try simp only [List.length_take]); omega) (fun x hx => ?_); try simp only [Int.toNat_natCast] at hx)
    | refine side_and (side_of (by first | (and_intros <;> first | exact Nat.le_of_ble_eq_true rfl | rfl | omega | (simp only [List.length_map, List.length_append, List.length_replicate, List.length_take, List.length_cons, List.length_nil, List.length_drop, List.length_set, markList_length, midL_len, mkL_length]; omega) | exact bytes_ok (Nat.le_of_ble_eq_true rfl) (by omega) (by simp only [List.length_map, List.length_append, List.length_replicate, List.length_take, List.length_cons, List.length_nil, List.length_drop, List.length_set, markList_length, midL_len, mkL_length]; omega) | exact bytes_okN (Nat.le_of_ble_eq_true rfl) (by simp only [List.length_map, List.length_append, List.length_replicate, List.length_take, List.length_cons, List.length_nil, List.length_drop, List.length_set, markList_length, midL_len, mkL_length]; omega)) | fail)) ?_
    | refine nilB_intro (fun h => ?_) ?_
    | refine side_and (side_of (show Go.Ab.structOk _ _ = true by kernel_rfl)) ?_
    | refine side_and (side_of (map_len (fun _ => rfl))) ?_
    | refine side_and (side_of (map_one (fun _ => rfl) _)) ?_
    | refine side_and ?_ ?_
    | refine LoadK_of rfl rfl ?_
    | refine LoadD_cel rfl rfl rfl rfl ?_
    | refine LoadD_of rfl ?_
    | refine StoreD_of rfl rfl rfl ?_
    | refine AppD_of rfl (by and_intros <;> first | rfl | decide) (by simp only [List.length_map, List.length_append, List.length_take, List.length_cons, List.length_nil]; first | (refine ⟨by omega, ?_⟩; refine Nat.le_trans (Nat.mul_le_mul_left _ (show _ ≤ 512 by decide)) ?_; omega) | fail) ?_
    | refine AppN_of rfl rfl (by and_intros <;> rfl) (by simp only [List.length_map, List.length_append, List.length_take, List.length_cons, List.length_nil]; first | (refine ⟨by omega, ?_⟩; refine Nat.le_trans (Nat.mul_le_mul_left _ (show _ ≤ 512 by decide)) ?_; omega) | fail) ?_
    | (show False; omega)
  all_goals
    conv => whnf
    refine OutA_plain rfl rfl ?_
    first
    | exact bool_no (fun e => absurd (congrArg HouseT.Group e) (by assumption))
    | exact bool_no (fun e => absurd (congrArg HouseT.Disks e) (by assumption))
    | exact bool_yes (HouseT.same (by assumption) (by assumption))
theorem m_laws_markHouse (x : HouseT) (k : Int) (h0 : 0 ≤ k) (h1 : HouseT.cntS x k ≤ 1152921504606846976) : MC Try.prog 30 true x.cells HouseT.shp k (HouseT.mkS x k).cells (HouseT.cntS x k) := by
  have hcx : HouseT.cntS x k = k + (cntL ReplicaT.cnt x.Group.Reps : Int) + (cntL DiskT.cnt x.Disks : Int) := rfl
  refine mc_of Try.func30 rfl (by kernel_rfl) 14 [.tmp 4] [.own 0, .int .i64 x.Group.Term, .int .i64 x.Group.Lead, .own 1] rfl rfl (fun e => by first | rfl | cases e) rfl rfl ?_
  repeat' (conv => whnf); first
    | refine nameB_true ?_
    | refine nameB_false ?_
    | refine nameB_yes (by assumption) ?_
    | refine nameB_no (by assumption) ?_
    | refine nameB_dyes (by assumption) ?_
    | refine nameB_dno (by assumption) ?_
    | (refine nameB_dec (fun h => ?_) (fun h => ?_) <;> try simp only [List.length_map, List.length_take, List.length_append, List.length_drop, List.length_set, markList_length, midL_len, mkL_length, Int.toNat_natCast, fact_byte] at h)
    | (refine nameB_cases (fun h => ?_) (fun h => ?_) <;> try simp only [bne_iff_ne, ne_eq, bne_eq_false_iff_eq, beq_iff_eq, beq_eq_false_iff_ne, Bool.not_eq_true', Bool.not_eq_false', Bool.or_eq_true, Bool.or_eq_false_iff, List.length_map, List.length_take, List.length_append, List.length_drop, List.length_set, markList_length, midL_len, mkL_length, Int.toNat_natCast, fact_byte] at h)
    | refine splitB_true ?_
    | refine splitB_false ?_
    | (refine splitB_intro (fun h => ?_) (fun h => ?_) <;> subst h)
    | refine draw_text (by kernel_rfl) (by kernel_rfl) (by kernel_rfl) ?_
    | refine both_intro ?_ ?_
    | exact True.intro
    | (show Go.Ab.CallA _ _ _ _ _ _ _; first
        | refine CallMs (m_laws_markGroup x.Group k (by omega) (by have hss : GroupT.cntS x.Group k = k + (cntL ReplicaT.cnt x.Group.Reps : Int) := rfl; omega)) [] trivial rfl rfl ?_
        | refine CallM1 (m_laws_markDiskS x.Disks (k + (cntL ReplicaT.cnt x.Group.Reps : Int)) (by omega) (by omega) (by have hll := cntL_len_Disk x.Disks; omega)) [] trivial rfl rfl ?_)
    | refine ix_map_at hx ?_
    | refine ix_map_at hy ?_
    | refine sl_pre (by omega) (fun _ => rfl) ?_
    | refine sl_suf (by omega) (fun _ => rfl) ?_
    | (refine ix_map2 hx (by omega) (by (try simp only [List.length_take]); omega) (fun y hy => ?_); try simp only [Int.toNat_natCast] at hy)
    | (refine ix_map (by omega) (by (try simp only [List.length_take]); omega) (fun x hx => ?_); try simp only [Int.toNat_natCast] at hx)
    | refine side_and (side_of (by first | (and_intros <;> first | exact Nat.le_of_ble_eq_true rfl | rfl | omega | (simp only [List.length_map, List.length_append, List.length_replicate, List.length_take, List.length_cons, List.length_nil, List.length_drop, List.length_set, markList_length, midL_len, mkL_length]; omega) | exact bytes_ok (Nat.le_of_ble_eq_true rfl) (by omega) (by simp only [List.length_map, List.length_append, List.length_replicate, List.length_take, List.length_cons, List.length_nil, List.length_drop, List.length_set, markList_length, midL_len, mkL_length]; omega) | exact bytes_okN (Nat.le_of_ble_eq_true rfl) (by simp only [List.length_map, List.length_append, List.length_replicate, List.length_take, List.length_cons, List.length_nil, List.length_drop, List.length_set, markList_length, midL_len, mkL_length]; omega)) | fail)) ?_
    | refine nilB_intro (fun h => ?_) ?_
    | refine side_and (side_of (show Go.Ab.structOk _ _ = true by kernel_rfl)) ?_
    | refine side_and (side_of (map_len (fun _ => rfl))) ?_
    | refine side_and (side_of (map_one (fun _ => rfl) _)) ?_
    | refine side_and ?_ ?_
    | refine LoadK_of rfl rfl ?_
    | refine LoadD_cel rfl rfl rfl rfl ?_
    | refine LoadD_of rfl ?_
    | refine StoreD_of rfl rfl rfl ?_
    | refine AppD_of rfl (by and_intros <;> first | rfl | decide) (by simp only [List.length_map, List.length_append, List.length_take, List.length_cons, List.length_nil]; first | (refine ⟨by omega, ?_⟩; refine Nat.le_trans (Nat.mul_le_mul_left _ (show _ ≤ 512 by decide)) ?_; omega) | fail) ?_
    | refine AppN_of rfl rfl (by and_intros <;> rfl) (by simp only [List.length_map, List.length_append, List.length_take, List.length_cons, List.length_nil]; first | (refine ⟨by omega, ?_⟩; refine Nat.le_trans (Nat.mul_le_mul_left _ (show _ ≤ 512 by decide)) ?_; omega) | fail) ?_
    | (show False; omega)
  all_goals
    conv => whnf
    exact OutM_of (by rfl) (by rfl) (by rfl) (by rfl) (by rfl)
theorem c_laws_heldHouse (x : HouseT) (k : Int) (h0 : 0 ≤ k) (h1 : HouseT.cntS x k ≤ 1152921504606846976) : PC Try.prog false 31 [.agg (HouseT.mkS x k).cells, .int .i64 k] (.int .i64 (HouseT.cntS x k)) [] := by
  have hcx : HouseT.cntS x k = k + (cntL ReplicaT.cnt x.Group.Reps : Int) + (cntL DiskT.cnt x.Disks : Int) := rfl
  have hs0 : GroupT.cntS x.Group k = k + (cntL ReplicaT.cnt x.Group.Reps : Int) := rfl
  refine pc_at Try.func31 rfl (by kernel_rfl) 18 [.tmp 4] rfl rfl ?_
  repeat' (conv => whnf); first
    | refine nameB_no (b := decide (_ < (0 : Int))) (decide_eq_false (by omega)) ?_
    | refine nameB_true ?_
    | refine nameB_false ?_
    | refine nameB_yes (by assumption) ?_
    | refine nameB_no (by assumption) ?_
    | refine nameB_dyes (by assumption) ?_
    | refine nameB_dno (by assumption) ?_
    | (refine nameB_dec (fun h => ?_) (fun h => ?_) <;> try simp only [List.length_map, List.length_take, List.length_append, List.length_drop, List.length_set, markList_length, midL_len, mkL_length, Int.toNat_natCast, fact_byte] at h)
    | (refine nameB_cases (fun h => ?_) (fun h => ?_) <;> try simp only [bne_iff_ne, ne_eq, bne_eq_false_iff_eq, beq_iff_eq, beq_eq_false_iff_ne, Bool.not_eq_true', Bool.not_eq_false', Bool.or_eq_true, Bool.or_eq_false_iff, List.length_map, List.length_take, List.length_append, List.length_drop, List.length_set, markList_length, midL_len, mkL_length, Int.toNat_natCast, fact_byte] at h)
    | refine splitB_true ?_
    | refine splitB_false ?_
    | (refine splitB_intro (fun h => ?_) (fun h => ?_) <;> subst h)
    | refine draw_text (by kernel_rfl) (by kernel_rfl) (by kernel_rfl) ?_
    | refine both_intro ?_ ?_
    | exact True.intro
    | (show Go.Ab.CallA _ _ _ _ _ _ _; first
        | refine Call0 (c_laws_heldGroup x.Group (k) (by omega) (by have hss : GroupT.cntS x.Group k = k + (cntL ReplicaT.cnt x.Group.Reps : Int) := rfl; omega)) rfl rfl ?_
        | refine Call0 (c_laws_heldDiskS x.Disks (k + (cntL ReplicaT.cnt x.Group.Reps : Int)) (by omega) (by omega) (by have hll := cntL_len_Disk x.Disks; omega)) rfl rfl ?_)
    | refine ix_map_at hx ?_
    | refine ix_map_at hy ?_
    | refine sl_pre (by omega) (fun _ => rfl) ?_
    | refine sl_suf (by omega) (fun _ => rfl) ?_
    | (refine ix_map2 hx (by omega) (by (try simp only [List.length_take]); omega) (fun y hy => ?_); try simp only [Int.toNat_natCast] at hy)
    | (refine ix_map (by omega) (by (try simp only [List.length_take]); omega) (fun x hx => ?_); try simp only [Int.toNat_natCast] at hx)
    | refine side_and (side_of (by first | (and_intros <;> first | exact Nat.le_of_ble_eq_true rfl | rfl | omega | (simp only [List.length_map, List.length_append, List.length_replicate, List.length_take, List.length_cons, List.length_nil, List.length_drop, List.length_set, markList_length, midL_len, mkL_length]; omega) | exact bytes_ok (Nat.le_of_ble_eq_true rfl) (by omega) (by simp only [List.length_map, List.length_append, List.length_replicate, List.length_take, List.length_cons, List.length_nil, List.length_drop, List.length_set, markList_length, midL_len, mkL_length]; omega) | exact bytes_okN (Nat.le_of_ble_eq_true rfl) (by simp only [List.length_map, List.length_append, List.length_replicate, List.length_take, List.length_cons, List.length_nil, List.length_drop, List.length_set, markList_length, midL_len, mkL_length]; omega)) | fail)) ?_
    | refine nilB_intro (fun h => ?_) ?_
    | refine side_and (side_of (show Go.Ab.structOk _ _ = true by kernel_rfl)) ?_
    | refine side_and (side_of (map_len (fun _ => rfl))) ?_
    | refine side_and (side_of (map_one (fun _ => rfl) _)) ?_
    | refine side_and ?_ ?_
    | refine LoadK_of rfl rfl ?_
    | refine LoadD_cel rfl rfl rfl rfl ?_
    | refine LoadD_of rfl ?_
    | refine StoreD_of rfl rfl rfl ?_
    | refine AppD_of rfl (by and_intros <;> first | rfl | decide) (by simp only [List.length_map, List.length_append, List.length_take, List.length_cons, List.length_nil]; first | (refine ⟨by omega, ?_⟩; refine Nat.le_trans (Nat.mul_le_mul_left _ (show _ ≤ 512 by decide)) ?_; omega) | fail) ?_
    | refine AppN_of rfl rfl (by and_intros <;> rfl) (by simp only [List.length_map, List.length_append, List.length_take, List.length_cons, List.length_nil]; first | (refine ⟨by omega, ?_⟩; refine Nat.le_trans (Nat.mul_le_mul_left _ (show _ ≤ 512 by decide)) ?_; omega) | fail) ?_
    | (show False; omega)
  all_goals
    conv => whnf
    exact OutA_plain rfl rfl rfl
end Go.Proofs.Ytkalobhgonaibaa
