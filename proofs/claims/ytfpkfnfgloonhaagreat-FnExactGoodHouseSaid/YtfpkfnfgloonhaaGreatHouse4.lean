/-
  Good houses: what GoodHouse gives; its law.
  No condition.
-/
import Derived.Test.YtfpkfnfgloonhaaGreatTypesZ
import Derived.Test.YtfpkfnfgloonhaaGreatGroup14
import Derived.Test.YtfpkfnfgloonhaaGreatFrame4
namespace Go.Proofs.YtfpkfnfgloonhaaGreat
open Go.Ab
set_option linter.unusedSimpArgs false
set_option maxRecDepth 20000
set_option maxHeartbeats 4000000
set_option linter.unusedVariables false

def fitsL (term : Int) (r : ReplicaT) (L : List EntryT) (n k : Nat) : Bool :=
  match r.Up with
  | true => decide (L = r.Log) && decide ((n : Int) = (k : Int))
  | false => preE L r.Log && (decide ((L.length : Int) = (r.Log.length : Int)) || (decide ((L.length : Int) = (r.Log.length : Int) + 1) && inB (lastE r.Log) (lastE L) term))
def mendB (d : DiskT) : Bool := okDsk d && decide (d.Loose = [])
def fitsD (term : Int) (r : ReplicaT) (d : DiskT) : Bool := (mendB d && (frames d.Kept 0).1.all okE) && fitsL term r ((frames d.Kept 0).1.map outE) (frames d.Kept 0).2 d.Kept.length
theorem mendB_of {d : DiskT} (h : mendB d = true) : okDsk d = true ∧ d.Loose = [] ∧ dskB d = d.Kept := by
  unfold mendB at h
  rw [Bool.and_eq_true, decide_eq_true_eq] at h
  exact ⟨h.1, h.2, by unfold dskB; rw [h.2, List.append_nil]⟩
theorem c_impl_isMendable (d : DiskT) (hw : d.w ≤ 1048576) : PC Tryz.prog false 115 [.agg d.cells] (.bool (mendB d)) [] := by
  refine pc_at Tryz.func115 rfl (by kernel_rfl) 10 [.tmp 2] rfl rfl ?_
  repeat' (conv => whnf); first
    | (refine nameB_cases (b := okDsk d) (fun h => ?_) (fun h => ?_))
    | refine nameB_true ?_
    | refine nameB_false ?_
    | refine nameB_yes (by assumption) ?_
    | refine nameB_no (by assumption) ?_
    | refine nameB_dyes (by assumption) ?_
    | refine nameB_dno (by assumption) ?_
    | (refine nameB_dec (fun h => ?_) (fun h => ?_) <;> try simp only [lensB, midL_len, mkL_length, Int.toNat_natCast, fact_byte] at h)
    | (refine nameB_cases (fun h => ?_) (fun h => ?_) <;> try simp only [bne_iff_ne, ne_eq, bne_eq_false_iff_eq, beq_iff_eq, beq_eq_false_iff_ne, Bool.not_eq_true', Bool.not_eq_false', Bool.or_eq_true, Bool.or_eq_false_iff, lensB, midL_len, mkL_length, Int.toNat_natCast, fact_byte] at h)
    | refine splitB_true ?_
    | refine splitB_false ?_
    | (refine splitB_intro (fun h => ?_) (fun h => ?_) <;> subst h)
    | refine draw_text (by kernel_rfl) (by kernel_rfl) (by kernel_rfl) ?_
    | refine both_intro ?_ ?_
    | refine eitherB_l ?_
    | exact True.intro
    | (show Go.Ab.CallA _ _ _ _ _ _ _; refine Call0 (c_impl_GoodDisk d hw) rfl rfl ?_)
    | refine ix_map_at hx ?_
    | refine ix_map_at hy ?_
    | refine sl_pre (by omega) (fun _ => rfl) ?_
    | refine sl_suf (by omega) (fun _ => rfl) ?_
    | (refine ix_map2 hx (by omega) (by (try simp only [List.length_take]); omega) (fun y hy => ?_); try simp only [Int.toNat_natCast] at hy)
    | (refine ix_map (by omega) (by (try simp only [List.length_take]); omega) (fun x hx => ?_); try simp only [Int.toNat_natCast] at hx)
    | refine side_and (side_of (by first | (and_intros <;> first | exact Nat.le_of_ble_eq_true rfl | rfl | omega | (simp only [lensB, lensC, List.length_replicate, midL_len, mkL_length]; omega) | exact bytes_ok (Nat.le_of_ble_eq_true rfl) (by omega) (by simp only [lensB, lensC, List.length_replicate, midL_len, mkL_length]; omega) | exact bytes_okN (Nat.le_of_ble_eq_true rfl) (by simp only [lensB, lensC, List.length_replicate, midL_len, mkL_length]; omega)) | fail)) ?_
    | refine nilB_intro (fun h => ?_) ?_
    | refine side_and (side_of (show Go.Ab.structOk _ _ = true by kernel_rfl)) ?_
    | refine side_and (side_of (map_len (fun _ => rfl))) ?_
    | refine side_and (side_of (map_one (fun _ => rfl) _)) ?_
    | refine side_and ?_ ?_
    | refine LoadK_of rfl rfl ?_
    | refine LoadD_cel rfl rfl rfl rfl ?_
    | refine LoadD_of rfl ?_
    | refine StoreD_of rfl rfl rfl ?_
    | refine AppD_of rfl (by and_intros <;> first | rfl | decide) (by simp only [lensC]; first | (refine ⟨by omega, ?_⟩; refine Nat.le_trans (Nat.mul_le_mul_left _ (show _ ≤ 512 by decide)) ?_; omega) | fail) ?_
    | refine AppN_of rfl rfl (by and_intros <;> rfl) (by simp only [lensC]; first | (refine ⟨by omega, ?_⟩; refine Nat.le_trans (Nat.mul_le_mul_left _ (show _ ≤ 512 by decide)) ?_; omega) | fail) ?_
    | (show False; omega)
  all_goals
    conv => whnf
    refine OutA_plain rfl rfl ?_
    first
    | (rw [mendB, (by assumption : okDsk d = true), decide_eq_true (by assumption)]; rfl)
    | (rw [mendB, (by assumption : okDsk d = true), decide_eq_false (by assumption)]; rfl)
    | (rw [mendB, (by assumption : okDsk d = false)]; rfl)
theorem preE_le {a b : List EntryT} (h : preE a b = true) : b.length ≤ a.length := by
  unfold preE at h
  have := of_decide_eq_true h
  have h2 := congrArg List.length this
  rw [List.length_take] at h2
  omega
theorem c_impl_fits_no (g : GroupT) (r : ReplicaT) (d : DiskT) (hd : d.w ≤ 1048576) (hm : mendB d = false) : PC Tryz.prog false 66 [.agg g.cells, .agg r.cells, .agg d.cells] (.bool false) [] := by
  refine pc_at Tryz.func66 rfl (by kernel_rfl) 64 [.tmp 6] rfl rfl ?_
  repeat' (conv => whnf); first
    | refine nameB_no (b := mendB d) hm ?_
    | refine nameB_true ?_
    | refine nameB_false ?_
    | refine nameB_yes (by assumption) ?_
    | refine nameB_no (by assumption) ?_
    | refine nameB_dyes (by assumption) ?_
    | refine nameB_dno (by assumption) ?_
    | (refine nameB_dec (fun h => ?_) (fun h => ?_) <;> try simp only [lensB, midL_len, mkL_length, Int.toNat_natCast, fact_byte] at h)
    | (refine nameB_cases (fun h => ?_) (fun h => ?_) <;> try simp only [bne_iff_ne, ne_eq, bne_eq_false_iff_eq, beq_iff_eq, beq_eq_false_iff_ne, Bool.not_eq_true', Bool.not_eq_false', Bool.or_eq_true, Bool.or_eq_false_iff, lensB, midL_len, mkL_length, Int.toNat_natCast, fact_byte] at h)
    | refine splitB_true ?_
    | refine splitB_false ?_
    | (refine splitB_intro (fun h => ?_) (fun h => ?_) <;> subst h)
    | refine draw_text (by kernel_rfl) (by kernel_rfl) (by kernel_rfl) ?_
    | refine both_intro ?_ ?_
    | refine eitherB_l ?_
    | exact True.intro
    | (show Go.Ab.CallA _ _ _ _ _ _ _; refine Call0 (c_impl_isMendable d hd) rfl rfl ?_)
    | (show Go.Ab.CallD _ _ _ _ _ _ _; refine CallD0 (c_impl_isMendable d hd) rfl rfl rfl ?_)
    | refine ix_map_at hx ?_
    | refine ix_map_at hy ?_
    | refine sl_pre (by omega) (fun _ => rfl) ?_
    | refine sl_suf (by omega) (fun _ => rfl) ?_
    | (refine ix_map2 hx (by omega) (by (try simp only [List.length_take]); omega) (fun y hy => ?_); try simp only [Int.toNat_natCast] at hy)
    | (refine ix_map (by omega) (by (try simp only [List.length_take]); omega) (fun x hx => ?_); try simp only [Int.toNat_natCast] at hx)
    | refine side_and (side_of (by first | (and_intros <;> first | exact Nat.le_of_ble_eq_true rfl | rfl | omega | (simp only [lensB, lensC, List.length_replicate, midL_len, mkL_length]; omega) | exact bytes_ok (Nat.le_of_ble_eq_true rfl) (by omega) (by simp only [lensB, lensC, List.length_replicate, midL_len, mkL_length]; omega) | exact bytes_okN (Nat.le_of_ble_eq_true rfl) (by simp only [lensB, lensC, List.length_replicate, midL_len, mkL_length]; omega)) | fail)) ?_
    | refine nilB_intro (fun h => ?_) ?_
    | refine side_and (side_of (show Go.Ab.structOk _ _ = true by kernel_rfl)) ?_
    | refine side_and (side_of (map_len (fun _ => rfl))) ?_
    | refine side_and (side_of (map_one (fun _ => rfl) _)) ?_
    | refine side_and ?_ ?_
    | refine LoadK_of rfl rfl ?_
    | refine LoadD_cel rfl rfl rfl rfl ?_
    | refine LoadD_of rfl ?_
    | refine StoreD_of rfl rfl rfl ?_
    | refine AppD_of rfl (by and_intros <;> first | rfl | decide) (by simp only [lensC]; first | (refine ⟨by omega, ?_⟩; refine Nat.le_trans (Nat.mul_le_mul_left _ (show _ ≤ 512 by decide)) ?_; omega) | fail) ?_
    | refine AppN_of rfl rfl (by and_intros <;> rfl) (by simp only [lensC]; first | (refine ⟨by omega, ?_⟩; refine Nat.le_trans (Nat.mul_le_mul_left _ (show _ ≤ 512 by decide)) ?_; omega) | fail) ?_
    | (show False; omega)
  all_goals
    conv => whnf
    exact OutA_plain rfl rfl rfl
theorem c_impl_fits_bad (g : GroupT) (r : ReplicaT) (d : DiskT) (hd : d.w ≤ 1048576) (hm : mendB d = true) (hb : PC Tryz.prog false 100 [.agg d.cells] (.tup [.nil, .int .i64 0, .bool false]) []) : PC Tryz.prog false 66 [.agg g.cells, .agg r.cells, .agg d.cells] (.bool false) [] := by
  refine pc_at Tryz.func66 rfl (by kernel_rfl) 64 [.tmp 6] rfl rfl ?_
  repeat' (conv => whnf); first
    | refine nameB_yes (b := mendB d) hm ?_
    | refine nameB_true ?_
    | refine nameB_false ?_
    | refine nameB_yes (by assumption) ?_
    | refine nameB_no (by assumption) ?_
    | refine nameB_dyes (by assumption) ?_
    | refine nameB_dno (by assumption) ?_
    | (refine nameB_dec (fun h => ?_) (fun h => ?_) <;> try simp only [lensB, midL_len, mkL_length, Int.toNat_natCast, fact_byte] at h)
    | (refine nameB_cases (fun h => ?_) (fun h => ?_) <;> try simp only [bne_iff_ne, ne_eq, bne_eq_false_iff_eq, beq_iff_eq, beq_eq_false_iff_ne, Bool.not_eq_true', Bool.not_eq_false', Bool.or_eq_true, Bool.or_eq_false_iff, lensB, midL_len, mkL_length, Int.toNat_natCast, fact_byte] at h)
    | refine splitB_true ?_
    | refine splitB_false ?_
    | (refine splitB_intro (fun h => ?_) (fun h => ?_) <;> subst h)
    | refine draw_text (by kernel_rfl) (by kernel_rfl) (by kernel_rfl) ?_
    | refine both_intro ?_ ?_
    | refine eitherB_l ?_
    | exact True.intro
    | (show Go.Ab.CallA _ _ _ _ _ _ _; first
        | refine Call0 (c_impl_isMendable d hd) rfl rfl ?_
        | refine Call0 (hb) rfl rfl ?_)
    | (show Go.Ab.CallD _ _ _ _ _ _ _; first
        | refine CallD0 (c_impl_isMendable d hd) rfl rfl rfl ?_
        | refine CallD0 (hb) rfl rfl rfl ?_)
    | refine ix_map_at hx ?_
    | refine ix_map_at hy ?_
    | refine sl_pre (by omega) (fun _ => rfl) ?_
    | refine sl_suf (by omega) (fun _ => rfl) ?_
    | (refine ix_map2 hx (by omega) (by (try simp only [List.length_take]); omega) (fun y hy => ?_); try simp only [Int.toNat_natCast] at hy)
    | (refine ix_map (by omega) (by (try simp only [List.length_take]); omega) (fun x hx => ?_); try simp only [Int.toNat_natCast] at hx)
    | refine side_and (side_of (by first | (and_intros <;> first | exact Nat.le_of_ble_eq_true rfl | rfl | omega | (simp only [lensB, lensC, List.length_replicate, midL_len, mkL_length]; omega) | exact bytes_ok (Nat.le_of_ble_eq_true rfl) (by omega) (by simp only [lensB, lensC, List.length_replicate, midL_len, mkL_length]; omega) | exact bytes_okN (Nat.le_of_ble_eq_true rfl) (by simp only [lensB, lensC, List.length_replicate, midL_len, mkL_length]; omega)) | fail)) ?_
    | refine nilB_intro (fun h => ?_) ?_
    | refine side_and (side_of (show Go.Ab.structOk _ _ = true by kernel_rfl)) ?_
    | refine side_and (side_of (map_len (fun _ => rfl))) ?_
    | refine side_and (side_of (map_one (fun _ => rfl) _)) ?_
    | refine side_and ?_ ?_
    | refine LoadK_of rfl rfl ?_
    | refine LoadD_cel rfl rfl rfl rfl ?_
    | refine LoadD_of rfl ?_
    | refine StoreD_of rfl rfl rfl ?_
    | refine AppD_of rfl (by and_intros <;> first | rfl | decide) (by simp only [lensC]; first | (refine ⟨by omega, ?_⟩; refine Nat.le_trans (Nat.mul_le_mul_left _ (show _ ≤ 512 by decide)) ?_; omega) | fail) ?_
    | refine AppN_of rfl rfl (by and_intros <;> rfl) (by simp only [lensC]; first | (refine ⟨by omega, ?_⟩; refine Nat.le_trans (Nat.mul_le_mul_left _ (show _ ≤ 512 by decide)) ?_; omega) | fail) ?_
    | (show False; omega)
  all_goals
    conv => whnf
    exact OutA_plain rfl rfl rfl
theorem c_impl_fits_up (g : GroupT) (r : ReplicaT) (d : DiskT) (L : List EntryT) (n : Nat) (hu : r.Up = true) (hL : okL EntryT.ok L) (hd : d.w ≤ 1048576) (hm : mendB d = true) (hb : PC Tryz.prog false 100 [.agg d.cells] (.tup [.own 0, .int .i64 (n : Nat), .bool true]) [⟨.deep EntryT.shp, 124, 8, L.map EntryT.cells⟩]) : PC Tryz.prog false 66 [.agg g.cells, .agg r.cells, .agg d.cells] (.bool (fitsL g.Term r L n d.Kept.length)) [] := by
  refine pc_at Tryz.func66 rfl (by kernel_rfl) 64 [.tmp 6] rfl rfl ?_
  repeat' (conv => whnf); first
    | refine nameB_yes (b := mendB d) hm ?_
    | refine nameB_yes (b := r.Up) hu ?_
    | refine nameB_true ?_
    | refine nameB_false ?_
    | refine nameB_yes (by assumption) ?_
    | refine nameB_no (by assumption) ?_
    | refine nameB_dyes (by assumption) ?_
    | refine nameB_dno (by assumption) ?_
    | (refine nameB_dec (fun h => ?_) (fun h => ?_) <;> try simp only [lensB, midL_len, mkL_length, Int.toNat_natCast, fact_byte] at h)
    | (refine nameB_cases (fun h => ?_) (fun h => ?_) <;> try simp only [bne_iff_ne, ne_eq, bne_eq_false_iff_eq, beq_iff_eq, beq_eq_false_iff_ne, Bool.not_eq_true', Bool.not_eq_false', Bool.or_eq_true, Bool.or_eq_false_iff, lensB, midL_len, mkL_length, Int.toNat_natCast, fact_byte] at h)
    | refine splitB_true ?_
    | refine splitB_false ?_
    | (refine splitB_intro (fun h => ?_) (fun h => ?_) <;> subst h)
    | refine draw_text (by kernel_rfl) (by kernel_rfl) (by kernel_rfl) ?_
    | refine both_intro ?_ ?_
    | refine eitherB_l ?_
    | exact True.intro
    | (show Go.Ab.CallA _ _ _ _ _ _ _; first
        | refine Call0 (c_impl_isMendable d hd) rfl rfl ?_
        | refine CallF (hb) rfl rfl rfl (Nat.le_of_ble_eq_true rfl) ?_
        | refine Call0 (c_impl_sameEntries L r.Log hL) rfl rfl ?_)
    | (show Go.Ab.CallD _ _ _ _ _ _ _; first
        | refine CallD0 (c_impl_isMendable d hd) rfl rfl rfl ?_
        | refine CallDF (hb) rfl rfl ⟨rfl, rfl⟩ ?_
        | refine CallD0 (c_impl_sameEntries L r.Log hL) rfl rfl rfl ?_)
    | refine ix_map_at hx ?_
    | refine ix_map_at hy ?_
    | refine sl_pre (by omega) (fun _ => rfl) ?_
    | refine sl_suf (by omega) (fun _ => rfl) ?_
    | (refine ix_map2 hx (by omega) (by (try simp only [List.length_take]); omega) (fun y hy => ?_); try simp only [Int.toNat_natCast] at hy)
    | (refine ix_map (by omega) (by (try simp only [List.length_take]); omega) (fun x hx => ?_); try simp only [Int.toNat_natCast] at hx)
    | refine side_and (side_of (by first | (and_intros <;> first | exact Nat.le_of_ble_eq_true rfl | rfl | omega | (simp only [lensB, lensC, List.length_replicate, midL_len, mkL_length]; omega) | exact bytes_ok (Nat.le_of_ble_eq_true rfl) (by omega) (by simp only [lensB, lensC, List.length_replicate, midL_len, mkL_length]; omega) | exact bytes_okN (Nat.le_of_ble_eq_true rfl) (by simp only [lensB, lensC, List.length_replicate, midL_len, mkL_length]; omega)) | fail)) ?_
    | refine nilB_intro (fun h => ?_) ?_
    | refine side_and (side_of (show Go.Ab.structOk _ _ = true by kernel_rfl)) ?_
    | refine side_and (side_of (map_len (fun _ => rfl))) ?_
    | refine side_and (side_of (map_one (fun _ => rfl) _)) ?_
    | refine side_and ?_ ?_
    | refine LoadK_of rfl rfl ?_
    | refine LoadD_cel rfl rfl rfl rfl ?_
    | refine LoadD_of rfl ?_
    | refine StoreD_of rfl rfl rfl ?_
    | refine AppD_of rfl (by and_intros <;> first | rfl | decide) (by simp only [lensC]; first | (refine ⟨by omega, ?_⟩; refine Nat.le_trans (Nat.mul_le_mul_left _ (show _ ≤ 512 by decide)) ?_; omega) | fail) ?_
    | refine AppN_of rfl rfl (by and_intros <;> rfl) (by simp only [lensC]; first | (refine ⟨by omega, ?_⟩; refine Nat.le_trans (Nat.mul_le_mul_left _ (show _ ≤ 512 by decide)) ?_; omega) | fail) ?_
    | (show False; omega)
  all_goals
    conv => whnf
    refine OutA_plain rfl rfl ?_
    unfold fitsL
    rw [hu]
    first
    | (rw [decide_eq_false (show ¬ L = r.Log by assumption)]; rfl)
    | (rw [decide_eq_true (show L = r.Log by assumption), decide_eq_true (by assumption)]; rfl)
    | (rw [decide_eq_true (show L = r.Log by assumption), decide_eq_false (by assumption)]; rfl)
    | rfl
theorem c_impl_fits_down (g : GroupT) (r : ReplicaT) (d : DiskT) (L : List EntryT) (n : Nat) (hu : r.Up = false) (hL : okL EntryT.ok L) (hLl : L.length ≤ 1048575) (hr : r.Log.length ≤ 1048575) (hd : d.w ≤ 1048576) (hm : mendB d = true) (hb : PC Tryz.prog false 100 [.agg d.cells] (.tup [.own 0, .int .i64 (n : Nat), .bool true]) [⟨.deep EntryT.shp, 124, 8, L.map EntryT.cells⟩]) : PC Tryz.prog false 66 [.agg g.cells, .agg r.cells, .agg d.cells] (.bool (fitsL g.Term r L n d.Kept.length)) [] := by
  have hw : IntKind.i64.wrap ((r.Log.length : Int) + 1) = (r.Log.length : Int) + 1 := i64w (by omega) (by omega)
  refine pc_at Tryz.func66 rfl (by kernel_rfl) 64 [.tmp 6] rfl rfl ?_
  repeat' (conv => whnf); first
    | refine nameB_yes (b := mendB d) hm ?_
    | refine nameB_no (b := r.Up) hu ?_
    | (refine nameB_cases (b := preE L r.Log) (fun h => ?_) (fun h => ?_))
    | (rw [hw] at h)
    | refine nameB_true ?_
    | refine nameB_false ?_
    | refine nameB_yes (by assumption) ?_
    | refine nameB_no (by assumption) ?_
    | refine nameB_dyes (by assumption) ?_
    | refine nameB_dno (by assumption) ?_
    | (refine nameB_dec (fun h => ?_) (fun h => ?_) <;> try simp only [lensB, midL_len, mkL_length, Int.toNat_natCast, fact_byte] at h)
    | (refine nameB_cases (fun h => ?_) (fun h => ?_) <;> try simp only [bne_iff_ne, ne_eq, bne_eq_false_iff_eq, beq_iff_eq, beq_eq_false_iff_ne, Bool.not_eq_true', Bool.not_eq_false', Bool.or_eq_true, Bool.or_eq_false_iff, lensB, midL_len, mkL_length, Int.toNat_natCast, fact_byte] at h)
    | refine splitB_true ?_
    | refine splitB_false ?_
    | (refine splitB_intro (fun h => ?_) (fun h => ?_) <;> subst h)
    | refine draw_text (by kernel_rfl) (by kernel_rfl) (by kernel_rfl) ?_
    | refine both_intro ?_ ?_
    | refine eitherB_l ?_
    | exact True.intro
    | (show Go.Ab.CallA _ _ _ _ _ _ _; first
        | refine Call0 (c_impl_isMendable d hd) rfl rfl ?_
        | refine CallF (hb) rfl rfl rfl (Nat.le_of_ble_eq_true rfl) ?_
        | refine Call0 (c_impl_hasPrefix L r.Log hL (by omega)) rfl rfl ?_
        | refine Call0 (c_impl_lastTerm L (by omega)) rfl rfl ?_
        | refine Call0 (c_impl_lastTerm r.Log (by omega)) rfl rfl ?_
        | refine Call0 (c_impl_within ..) rfl rfl ?_)
    | (show Go.Ab.CallD _ _ _ _ _ _ _; first
        | refine CallD0 (c_impl_isMendable d hd) rfl rfl rfl ?_
        | refine CallDF (hb) rfl rfl ⟨rfl, rfl⟩ ?_
        | refine CallD0 (c_impl_hasPrefix L r.Log hL (by omega)) rfl rfl rfl ?_
        | refine CallD0 (c_impl_lastTerm L (by omega)) rfl rfl rfl ?_
        | refine CallD0 (c_impl_lastTerm r.Log (by omega)) rfl rfl rfl ?_
        | refine CallD0 (c_impl_within ..) rfl rfl rfl ?_)
    | refine ix_map_at hx ?_
    | refine ix_map_at hy ?_
    | refine sl_pre (by omega) (fun _ => rfl) ?_
    | refine sl_suf (by omega) (fun _ => rfl) ?_
    | (refine ix_map2 hx (by omega) (by (try simp only [List.length_take]); omega) (fun y hy => ?_); try simp only [Int.toNat_natCast] at hy)
    | (refine ix_map (by omega) (by (try simp only [List.length_take]); omega) (fun x hx => ?_); try simp only [Int.toNat_natCast] at hx)
    | refine side_and (side_of (by first | (and_intros <;> first | exact Nat.le_of_ble_eq_true rfl | rfl | omega | (simp only [lensB, lensC, List.length_replicate, midL_len, mkL_length]; omega) | exact bytes_ok (Nat.le_of_ble_eq_true rfl) (by omega) (by simp only [lensB, lensC, List.length_replicate, midL_len, mkL_length]; omega) | exact bytes_okN (Nat.le_of_ble_eq_true rfl) (by simp only [lensB, lensC, List.length_replicate, midL_len, mkL_length]; omega)) | fail)) ?_
    | refine nilB_intro (fun h => ?_) ?_
    | refine side_and (side_of (show Go.Ab.structOk _ _ = true by kernel_rfl)) ?_
    | refine side_and (side_of (map_len (fun _ => rfl))) ?_
    | refine side_and (side_of (map_one (fun _ => rfl) _)) ?_
    | refine side_and ?_ ?_
    | refine LoadK_of rfl rfl ?_
    | refine LoadD_cel rfl rfl rfl rfl ?_
    | refine LoadD_of rfl ?_
    | refine StoreD_of rfl rfl rfl ?_
    | refine AppD_of rfl (by and_intros <;> first | rfl | decide) (by simp only [lensC]; first | (refine ⟨by omega, ?_⟩; refine Nat.le_trans (Nat.mul_le_mul_left _ (show _ ≤ 512 by decide)) ?_; omega) | fail) ?_
    | refine AppN_of rfl rfl (by and_intros <;> rfl) (by simp only [lensC]; first | (refine ⟨by omega, ?_⟩; refine Nat.le_trans (Nat.mul_le_mul_left _ (show _ ≤ 512 by decide)) ?_; omega) | fail) ?_
    | (show False; omega)
  all_goals
    conv => whnf
    refine OutA_plain rfl rfl ?_
    unfold fitsL
    rw [hu]
    first
    | (rw [(by assumption : preE L r.Log = false)]; rfl)
    | (have q := preE_le (by assumption : preE L r.Log = true)
       rw [(by assumption : preE L r.Log = true)]
       first
       | (rw [decide_eq_true (by assumption : (L.length : Int) = (r.Log.length : Int))]; rfl)
       | (rw [decide_eq_false (show ¬ (L.length : Int) = (r.Log.length : Int) by omega), decide_eq_false (show ¬ (L.length : Int) = (r.Log.length : Int) + 1 by omega)]; rfl)
       | (rw [decide_eq_false (show ¬ (L.length : Int) = (r.Log.length : Int) by omega), decide_eq_true (show (L.length : Int) = (r.Log.length : Int) + 1 by omega), (by assumption : inB (lastE r.Log) (lastE L) g.Term = true)]; rfl)
       | (rw [decide_eq_false (show ¬ (L.length : Int) = (r.Log.length : Int) by omega), decide_eq_true (show (L.length : Int) = (r.Log.length : Int) + 1 by omega), (by assumption : inB (lastE r.Log) (lastE L) g.Term = false)]; rfl))
theorem c_impl_fitsDisk (g : GroupT) (r : ReplicaT) (d : DiskT) (hr : r.Log.length ≤ 1048575) (hd : d.w ≤ 1048576) : PC Tryz.prog false 66 [.agg g.cells, .agg r.cells, .agg d.cells] (.bool (fitsD g.Term r d)) [] := by
  cases hm : mendB d with
  | false =>
    have e : fitsD g.Term r d = false := by unfold fitsD; rw [hm]; rfl
    rw [e]
    exact c_impl_fits_no g r d hd hm
  | true =>
    obtain ⟨m1, m2, m3⟩ := mendB_of hm
    have hw2 := okDsk_w m1
    cases ha : (frames d.Kept 0).1.all okE with
    | false =>
      have e : fitsD g.Term r d = false := by unfold fitsD; rw [hm, ha]; rfl
      rw [e]
      exact c_impl_fits_bad g r d hd hm (c_impl_onDisk_no d (by omega) (by rw [m3]; exact ha))
    | true =>
      have e : fitsD g.Term r d = fitsL g.Term r ((frames d.Kept 0).1.map outE) (frames d.Kept 0).2 d.Kept.length := by unfold fitsD; rw [hm, ha]; rfl
      rw [e]
      have hy := c_impl_onDisk_yes d (by omega) (by rw [m3]; exact ha)
      rw [m3] at hy
      obtain ⟨f1, f2, f3⟩ := frames_ok (b := d.Kept)
      have hk : d.Kept.length ≤ 50000 := by have : d.w = d.Kept.length + d.Loose.length := rfl; omega
      have hL : okL EntryT.ok ((frames d.Kept 0).1.map outE) := ⟨by rw [List.length_map]; omega, fun x hx => by
        obtain ⟨z, _, rfl⟩ := List.mem_map.1 hx
        exact small_ok outE_small⟩
      cases hu : r.Up with
      | true => exact c_impl_fits_up g r d _ _ hu hL hd hm hy
      | false => exact c_impl_fits_down g r d _ _ hu hL (by rw [List.length_map]; omega) hr hd hm hy
theorem last_at {L : List EntryT} {y : EntryT} {m : Nat} (h : L[m]? = some y) (hl : L.length = m + 1) : lastE L = y.Term := by
  unfold lastE
  rw [List.getLast?_eq_getElem?, hl, Nat.add_sub_cancel, h]
def fitsS (term : Int) (r : ReplicaT) (d : DiskT) : Bool := ((okOnD d && decide (d.Loose = [])) && preE (onD d) r.Log) && fitsL term r (onD d) (frames d.Kept 0).2 d.Kept.length
theorem preE_self {a b : List EntryT} (h : a = b) : preE a b = true := by
  subst h
  unfold preE
  rw [List.take_length]
  exact decide_eq_true rfl
theorem fits_same {term : Int} {r : ReplicaT} {d : DiskT} : fitsS term r d = fitsD term r d := by
  unfold fitsS fitsD
  cases h1 : okDsk d with
  | false =>
    have e1 : okOnD d = false := by unfold okOnD; rw [h1]; rfl
    have e2 : mendB d = false := by unfold mendB; rw [h1]; rfl
    rw [e1, e2]
    rfl
  | true =>
    by_cases h2 : d.Loose = []
    · have e0 : dskB d = d.Kept := by unfold dskB; rw [h2, List.append_nil]
      have e1 : mendB d = true := by unfold mendB; rw [h1, decide_eq_true h2]; rfl
      have e2 : okOnD d = (frames d.Kept 0).1.all okE := by unfold okOnD; rw [h1, e0]; rfl
      rw [e1, e2, decide_eq_true h2]
      cases h3 : (frames d.Kept 0).1.all okE with
      | false => rfl
      | true =>
        have e3 : onD d = (frames d.Kept 0).1.map outE := by rw [onD_yes (by rw [e2]; exact h3), e0]
        rw [e3]
        generalize (frames d.Kept 0).1.map outE = L
        simp only [Bool.and_true, Bool.true_and]
        cases hp : preE L r.Log with
        | true => rfl
        | false =>
          unfold fitsL
          rw [Bool.false_and]
          cases r.Up with
          | true =>
            simp only
            rw [decide_eq_false (fun e => by rw [preE_self e] at hp; cases hp)]
            rfl
          | false =>
            simp only
            rw [hp]
            rfl
    · have e1 : mendB d = false := by unfold mendB; rw [decide_eq_false h2]; simp
      rw [e1, decide_eq_false h2]
      simp
theorem ix_ents {L : List EntryT} {n m : Nat} {Q : List AV → Prop} (e : n = m) (h : m < L.length) (hQ : ∀ x, L[m]? = some x → Q x.cells) : ∃ y, (L.map EntryT.cells)[n]? = some y ∧ Q y := by
  subst e
  exact ⟨EntryT.cells L[n], by simp [h], hQ _ (by simp [h])⟩
theorem preE_eq {a b : List EntryT} (h : preE a b = true) (hl : (a.length : Int) = (b.length : Int)) : a = b := by
  unfold preE at h
  have := of_decide_eq_true h
  rw [List.take_of_length_le (by omega)] at this
  exact this
theorem fitsS_no {term : Int} {r : ReplicaT} {d : DiskT} (h : okOnD d = false ∨ ¬ d.Loose = [] ∨ preE (onD d) r.Log = false) : fitsS term r d = false := by
  unfold fitsS
  rcases h with h | h | h
  · rw [h]; rfl
  · rw [decide_eq_false h]; simp
  · rw [h]; simp
theorem fitsS_val {term : Int} {r : ReplicaT} {d : DiskT} (h1 : okOnD d = true) (h2 : d.Loose = []) (h3 : preE (onD d) r.Log = true) : fitsS term r d = fitsL term r (onD d) (frames d.Kept 0).2 d.Kept.length := by
  unfold fitsS
  rw [h1, decide_eq_true h2, h3]
  rfl
theorem fits_up {term : Int} {r : ReplicaT} {L : List EntryT} {n k : Nat} (hu : r.Up = true) (hp : preE L r.Log = true) : (¬ (L.length : Int) = (r.Log.length : Int) → fitsL term r L n k = false) ∧ ((L.length : Int) = (r.Log.length : Int) → fitsL term r L n k = decide ((n : Int) = (k : Int))) := by
  unfold fitsL
  rw [hu]
  refine ⟨fun h => ?_, fun h => ?_⟩
  · simp only
    rw [decide_eq_false (fun e => h (by rw [e]))]
    rfl
  · simp only
    rw [decide_eq_true (preE_eq hp h)]
    rfl
theorem fits_down {term : Int} {r : ReplicaT} {L : List EntryT} {n k : Nat} (hu : r.Up = false) (hp : preE L r.Log = true) : ((L.length : Int) = (r.Log.length : Int) → fitsL term r L n k = true) ∧ (¬ (L.length : Int) = (r.Log.length : Int) → fitsL term r L n k = (decide ((L.length : Int) = (r.Log.length : Int) + 1) && inB (lastE r.Log) (lastE L) term)) := by
  unfold fitsL
  rw [hu]
  refine ⟨fun h => ?_, fun h => ?_⟩
  · simp only
    rw [hp, decide_eq_true h]
    rfl
  · simp only
    rw [hp, decide_eq_false h]
    rfl
theorem c_spec_l11Fits (d : DiskT) (r : ReplicaT) (term : Int) (hg : okDsk d = true) (hr : r.Log.length ≤ 1048575) : PC Tryz.prog true 89 [.agg d.cells, .agg r.cells, .int .i64 term] (.bool (fitsS term r d)) [] := by
  have hw2 := okDsk_w hg
  have hk : d.w = d.Kept.length + d.Loose.length := rfl
  obtain ⟨o1, o2⟩ := onD_ok d
  have o3 : (onD d).length ≤ 50000 := by
    cases h : okOnD d with
    | false => rw [onD_no h]; exact Nat.zero_le _
    | true =>
      rw [onD_yes h, List.length_map]
      have := (frames_ok (b := dskB d)).2.1
      have := dskB_len d
      omega
  have hw : IntKind.i64.wrap ((r.Log.length : Int) + 1) = (r.Log.length : Int) + 1 := i64w (by omega) (by omega)
  have hb := c_spec_l9Begins (onD d) r.Log r.Log.length o1 (by omega) (by omega) (Nat.le_refl _)
  rw [List.take_length] at hb
  refine pc_at Tryz.func89 rfl (by kernel_rfl) 88 [.tmp 6] rfl rfl ?_
  repeat' (conv => whnf); first
    | (rw [hw] at h)
    | (refine nameB_cases (b := okOnD d) (fun h => ?_) (fun h => ?_))
    | (refine nameB_cases (b := preE (onD d) r.Log) (fun h => ?_) (fun h => ?_))
    | (refine nameB_cases (b := r.Up) (fun h => ?_) (fun h => ?_))
    | refine ix_ents (m := r.Log.length) (by simp) (by omega) (fun y hy => ?_)
    | refine nameB_true ?_
    | refine nameB_false ?_
    | refine nameB_yes (by assumption) ?_
    | refine nameB_no (by assumption) ?_
    | refine nameB_dyes (by assumption) ?_
    | refine nameB_dno (by assumption) ?_
    | (refine nameB_dec (fun h => ?_) (fun h => ?_) <;> try simp only [lensB, midL_len, mkL_length, Int.toNat_natCast, fact_byte] at h)
    | (refine nameB_cases (fun h => ?_) (fun h => ?_) <;> try simp only [bne_iff_ne, ne_eq, bne_eq_false_iff_eq, beq_iff_eq, beq_eq_false_iff_ne, Bool.not_eq_true', Bool.not_eq_false', Bool.or_eq_true, Bool.or_eq_false_iff, lensB, midL_len, mkL_length, Int.toNat_natCast, fact_byte] at h)
    | refine splitB_true ?_
    | refine splitB_false ?_
    | (refine splitB_intro (fun h => ?_) (fun h => ?_) <;> subst h)
    | refine draw_text (by kernel_rfl) (by kernel_rfl) (by kernel_rfl) ?_
    | refine both_intro ?_ ?_
    | refine eitherB_l ?_
    | exact True.intro
    | (show Go.Ab.CallA _ _ _ _ _ _ _; first
        | refine CallT (c_spec_OnDisk d (by omega)) rfl rfl rfl rfl (Nat.le_of_ble_eq_true rfl) ?_
        | refine CallF (c_spec_l6Frames d.Kept (by omega)) rfl rfl rfl (Nat.le_of_ble_eq_true rfl) ?_
        | refine Call0 hb (congrArg (fun z : Nat => [AV.sl ((onD d).map EntryT.cells), AV.sl (r.Log.map EntryT.cells), AV.int .i64 (z : Int)]) (List.length_map _)) rfl ?_
        | refine Call0 (c_spec_l9Last r.Log (by omega)) rfl rfl ?_
        | refine Call0 (c_spec_l1In ..) rfl rfl ?_)
    | (show Go.Ab.CallD _ _ _ _ _ _ _; first
        | refine CallDT (c_spec_OnDisk d (by omega)) rfl rfl rfl ⟨rfl, rfl⟩ ?_
        | refine CallDF (c_spec_l6Frames d.Kept (by omega)) rfl rfl ⟨rfl, rfl⟩ ?_
        | refine CallD0 (c_spec_l9Last r.Log (by omega)) rfl rfl rfl ?_
        | refine CallD0 (c_spec_l1In ..) rfl rfl rfl ?_)
    | refine ix_map_at hx ?_
    | refine ix_map_at hy ?_
    | refine sl_pre (by omega) (fun _ => rfl) ?_
    | refine sl_suf (by omega) (fun _ => rfl) ?_
    | (refine ix_map2 hx (by omega) (by (try simp only [List.length_take]); omega) (fun y hy => ?_); try simp only [Int.toNat_natCast] at hy)
    | (refine ix_map (by omega) (by (try simp only [List.length_take]); omega) (fun x hx => ?_); try simp only [Int.toNat_natCast] at hx)
    | refine side_and (side_of (by first | (and_intros <;> first | exact Nat.le_of_ble_eq_true rfl | rfl | omega | (simp only [lensB, lensC, List.length_replicate, midL_len, mkL_length]; omega) | exact bytes_ok (Nat.le_of_ble_eq_true rfl) (by omega) (by simp only [lensB, lensC, List.length_replicate, midL_len, mkL_length]; omega) | exact bytes_okN (Nat.le_of_ble_eq_true rfl) (by simp only [lensB, lensC, List.length_replicate, midL_len, mkL_length]; omega)) | fail)) ?_
    | refine nilB_intro (fun h => ?_) ?_
    | refine side_and (side_of (show Go.Ab.structOk _ _ = true by kernel_rfl)) ?_
    | refine side_and (side_of (map_len (fun _ => rfl))) ?_
    | refine side_and (side_of (map_one (fun _ => rfl) _)) ?_
    | refine side_and ?_ ?_
    | refine LoadK_of rfl rfl ?_
    | refine LoadD_cel rfl rfl rfl rfl ?_
    | refine LoadD_of rfl ?_
    | refine StoreD_of rfl rfl rfl ?_
    | refine AppD_of rfl (by and_intros <;> first | rfl | decide) (by simp only [lensC]; first | (refine ⟨by omega, ?_⟩; refine Nat.le_trans (Nat.mul_le_mul_left _ (show _ ≤ 512 by decide)) ?_; omega) | fail) ?_
    | refine AppN_of rfl rfl (by and_intros <;> rfl) (by simp only [lensC]; first | (refine ⟨by omega, ?_⟩; refine Nat.le_trans (Nat.mul_le_mul_left _ (show _ ≤ 512 by decide)) ?_; omega) | fail) ?_
    | (show False; omega)
  all_goals
    conv => whnf
    refine OutA_plain rfl rfl ?_
    first
    | (rw [fitsS_no (by first | exact .inl (by assumption) | exact .inr (.inl (by assumption)) | exact .inr (.inr (by assumption)))]; rfl)
    | (exfalso; have q1 : r.Up = true := (by assumption); have q2 : r.Up = false := (by assumption); rw [q1] at q2; cases q2)
    | (exfalso; omega)
    | (rw [fitsS_val (by assumption) (by assumption) (by assumption), (fits_up (by assumption) (by assumption)).2 (by assumption), decide_eq_true (by assumption)]; rfl)
    | (rw [fitsS_val (by assumption) (by assumption) (by assumption), (fits_up (by assumption) (by assumption)).2 (by assumption), decide_eq_false (by assumption)]; rfl)
    | (rw [fitsS_val (by assumption) (by assumption) (by assumption), (fits_up (by assumption) (by assumption)).1 (by assumption)]; rfl)
    | (rw [fitsS_val (by assumption) (by assumption) (by assumption), (fits_down (by assumption) (by assumption)).1 (by assumption)]; rfl)
    | (rw [fitsS_val (by assumption) (by assumption) (by assumption), (fits_down (by assumption) (by assumption)).2 (by assumption), decide_eq_false (by assumption)]; rfl)
    | (have hla := last_at hy (by omega)
       rw [fitsS_val (by assumption) (by assumption) (by assumption), (fits_down (by assumption) (by assumption)).2 (by assumption), decide_eq_true (by assumption), hla]
       first | (rw [(by assumption : inB _ y.Term term = true)]; rfl) | (rw [(by assumption : inB _ y.Term term = false)]; rfl) | rfl)
theorem c_spec_l11Fits2 (d : DiskT) (r : ReplicaT) (term : Int) (hg : okDsk d = true) (hr : r.Log.length ≤ 1048575) : PC Tryz.prog true 89 [.agg d.cells, .agg r.cells, .int .i64 term] (.bool (fitsD term r d)) [] := by
  have := c_spec_l11Fits d r term hg hr
  rw [fits_same] at this
  exact this
end Go.Proofs.YtfpkfnfgloonhaaGreat
