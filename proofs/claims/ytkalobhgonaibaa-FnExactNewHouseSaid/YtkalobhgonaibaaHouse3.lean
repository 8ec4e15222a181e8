/-
  What NewHouse gives; its law.
  No condition.
-/
import Derived.Test.YtkalobhgonaibaaHouse2
namespace Go.Proofs.Ytkalobhgonaibaa
open Go.Ab
set_option linter.unusedSimpArgs false
set_option maxRecDepth 20000
set_option maxHeartbeats 4000000
set_option linter.unusedVariables false

def newHouseN (n : Nat) : HouseT := ⟨⟨List.replicate n newRep, 0, -1⟩, List.replicate n ⟨[], []⟩⟩
def newHouse (m : Int) : HouseT := match isMany m with | true => newHouseN m.toNat | false => ⟨⟨[], 0, 0⟩, []⟩
theorem isMany_nat {m : Int} (h : isMany m = true) : ∃ n : Nat, m = (n : Int) ∧ (n = 3 ∨ n = 5) := by
  unfold isMany at h
  simp only [Bool.or_eq_true, decide_eq_true_eq] at h
  rcases h with rfl | rfl
  · exact ⟨3, rfl, .inl rfl⟩
  · exact ⟨5, rfl, .inr rfl⟩
theorem newHouse_yes {n : Nat} (hn : n = 3 ∨ n = 5) : newHouse (n : Int) = newHouseN n := by
  unfold newHouse
  rw [isMany_yes hn]
  rfl
theorem newHouse_no {m : Int} (h : isMany m = false) : newHouse m = ⟨⟨[], 0, 0⟩, []⟩ := by
  unfold newHouse
  rw [h]
theorem flat_repD (n : Nat) : ∀ e ∈ List.replicate n ([.str [], .str []] : List AV), flatFit DiskT.shp e = true := prom_rep rfl
theorem flat_repR (n : Nat) : ∀ e ∈ List.replicate n (repN true), flatFit ReplicaT.shp e = true := prom_rep rfl
theorem deN_map (n : Nat) : (List.replicate n (repN true)).map (List.map deNil) = (List.replicate n newRep).map ReplicaT.cells := by
  rw [List.map_replicate, List.map_replicate]
  rfl
theorem dsk_map (n : Nat) : List.replicate n ([.str [], .str []] : List AV) = (List.replicate n (⟨[], []⟩ : DiskT)).map DiskT.cells := by
  rw [List.map_replicate]
  rfl
theorem hs_tup (n : Nat) : AV.tup [.agg [.sl ((List.replicate n (repN true)).map (List.map deNil)), .int .i64 0, .int .i64 (-1), .sl (List.replicate n [.str [], .str []])], .bool true] = AV.tup [.agg (newHouseN n).cells, .bool true] := by
  rw [deN_map, dsk_map]
  rfl
theorem c_impl_NewHouse_yes (n : Nat) (hn : n = 3 ∨ n = 5) : PC Try.prog false 28 [.int .i64 (n : Int)] (.tup [.agg [.own 0, .int .i64 0, .int .i64 (-1), .own 1], .bool true]) [⟨.deep ReplicaT.shp, 101, 3, (List.replicate n newRep).map ReplicaT.cells⟩, ⟨.deep DiskT.shp, 106, 2, (List.replicate n (⟨[], []⟩ : DiskT)).map DiskT.cells⟩] := by
  refine pc_at Try.func28 rfl (by kernel_rfl) 18 [.cell 2 52, .tmp 3] rfl rfl ?_
  repeat' (conv => whnf); first
    | exact side_of (by rcases hn with rfl | rfl <;> decide)
    | refine nameB_true ?_
    | refine nameB_false ?_
    | refine nameB_yes (by assumption) ?_
    | refine nameB_no (by assumption) ?_
    | refine nameB_dyes (by assumption) ?_
    | refine nameB_dno (by assumption) ?_
    | (refine nameB_dec (fun h => ?_) (fun h => ?_) <;> try simp only [List.length_map, List.length_take, List.length_append, List.length_drop, List.length_set, markList_length, midL_len, mkL_length, Int.toNat_natCast, fact_byte] at h)
    | (refine nameB_cases (fun h => ?_) (fun h => ?_) <;> try simp only [bne_iff_ne, ne_eq, bne_eq_false_iff_eq, beq_iff_eq, beq_eq_false_iff_ne, Bool.not_eq_true', Bool.not_eq_false', Bool.or_eq_true, Bool.or_eq_false_iff, List.length_map, List.length_take, List.length_append, List.length_drop, List.length_set, markList_length, midL_len, mkL_length, Int.toNat_natCast, fact_byte] at h)
    | refine splitB_true ?_
    | refine splitB_false ?_
    | (refine splitB_intro (fun h => ?_) (fun h => ?_) <;> subst h)
    | refine draw_text (by kernel_rfl) (by kernel_rfl) (by kernel_rfl) ?_
    | refine both_intro ?_ ?_
    | exact True.intro
    | (show Go.Ab.CallA _ _ _ _ _ _ _; refine CallF (c_impl_NewGroup_yes n hn) rfl rfl rfl (Nat.le_of_ble_eq_true rfl) ?_)
    | (show Go.Ab.CallD _ _ _ _ _ _ _; refine CallDF (c_impl_NewGroup_yes n hn) rfl rfl ⟨rfl, rfl⟩ ?_)
    | refine ix_map_at hx ?_
    | refine ix_map_at hy ?_
    | refine sl_pre (by omega) (fun _ => rfl) ?_
    | refine sl_suf (by omega) (fun _ => rfl) ?_
    | (refine ix_map2 hx (by omega) (by (try simp only [List.length_take]); omega) (fun y hy => ?_); try simp only [Int.toNat_natCast] at hy)
    | (refine ix_map (by omega) (by (try simp only [List.length_take]); omega) (fun x hx => ?_); try simp only [Int.toNat_natCast] at hx)
    | refine side_and (side_of (by first | (and_intros <;> first | exact Nat.le_of_ble_eq_true rfl | rfl | omega | (simp only [List.length_map, List.length_append, List.length_replicate, List.length_take, List.length_cons, List.length_nil, List.length_drop, List.length_set, markList_length, midL_len, mkL_length]; omega) | exact bytes_ok (Nat.le_of_ble_eq_true rfl) (by omega) (by simp only [List.length_map, List.length_append, List.length_replicate, List.length_take, List.length_cons, List.length_nil, List.length_drop, List.length_set, markList_length, midL_len, mkL_length]; omega) | exact bytes_okN (Nat.le_of_ble_eq_true rfl) (by simp only [List.length_map, List.length_append, List.length_replicate, List.length_take, List.length_cons, List.length_nil, List.length_drop, List.length_set, markList_length, midL_len, mkL_length]; omega)) | fail)) ?_
    | refine nilB_intro (fun h => ?_) ?_
    | refine side_and (side_of (show Go.Ab.structOk _ _ = true by kernel_rfl)) ?_
    | refine side_and (side_of (map_len (fun _ => rfl))) ?_
    | refine side_and (side_of (map_one (fun _ => rfl) _)) ?_
    | refine side_and ?_ ?_
    | refine LoadK_of rfl rfl ?_
    | refine LoadD_cel rfl rfl rfl rfl ?_
    | refine LoadD_of rfl ?_
    | refine StoreD_of rfl rfl rfl ?_
    | refine AppD_of rfl (by and_intros <;> first | rfl | decide) (by simp only [List.length_map, List.length_append, List.length_take, List.length_cons, List.length_nil]; first | (refine ⟨by omega, ?_⟩; refine Nat.le_trans (Nat.mul_le_mul_left _ (show _ ≤ 512 by decide)) ?_; omega) | fail) ?_
    | refine AppN_of rfl rfl (by and_intros <;> rfl) (by simp only [List.length_map, List.length_append, List.length_take, List.length_cons, List.length_nil]; first | (refine ⟨by omega, ?_⟩; refine Nat.le_trans (Nat.mul_le_mul_left _ (show _ ≤ 512 by decide)) ?_; omega) | fail) ?_
    | (show False; omega)
  all_goals
    conv => whnf
    refine OutA_prom [(4112, ReplicaT.shp), (16416, DiskT.shp)] ⟨⟨_, _, _, rfl, flat_repR n⟩, ⟨_, _, _, rfl, flat_repD n⟩, trivial⟩ ?_
    conv => whnf
    refine OutA_deNil 4112 rfl rfl ?_
    conv => whnf
    exact OutA_deep rfl rfl rfl ⟨⟨congrArg (fun e => some (AObj.mk _ _ _ e)) (deN_map n), rfl⟩, ⟨congrArg (fun e => some (AObj.mk _ _ _ e)) (dsk_map n), rfl⟩, trivial⟩ rfl
theorem c_spec_NewHouse_yes (n : Nat) (hn : n = 3 ∨ n = 5) : PC Try.prog true 27 [.int .i64 (n : Int)] (.tup [.agg (newHouseN n).cells, .bool true]) [] := by
  refine pc_at Try.func27 rfl (by kernel_rfl) 18 [.cell 2 52, .tmp 3] rfl rfl ?_
  repeat' (conv => whnf); first
    | exact side_of (by rcases hn with rfl | rfl <;> decide)
    | refine nameB_true ?_
    | refine nameB_false ?_
    | refine nameB_yes (by assumption) ?_
    | refine nameB_no (by assumption) ?_
    | refine nameB_dyes (by assumption) ?_
    | refine nameB_dno (by assumption) ?_
    | (refine nameB_dec (fun h => ?_) (fun h => ?_) <;> try simp only [List.length_map, List.length_take, List.length_append, List.length_drop, List.length_set, markList_length, midL_len, mkL_length, Int.toNat_natCast, fact_byte] at h)
    | (refine nameB_cases (fun h => ?_) (fun h => ?_) <;> try simp only [bne_iff_ne, ne_eq, bne_eq_false_iff_eq, beq_iff_eq, beq_eq_false_iff_ne, Bool.not_eq_true', Bool.not_eq_false', Bool.or_eq_true, Bool.or_eq_false_iff, List.length_map, List.length_take, List.length_append, List.length_drop, List.length_set, markList_length, midL_len, mkL_length, Int.toNat_natCast, fact_byte] at h)
    | refine splitB_true ?_
    | refine splitB_false ?_
    | (refine splitB_intro (fun h => ?_) (fun h => ?_) <;> subst h)
    | refine draw_text (by kernel_rfl) (by kernel_rfl) (by kernel_rfl) ?_
    | refine both_intro ?_ ?_
    | exact True.intro
    | (show Go.Ab.CallA _ _ _ _ _ _ _; refine CallF (c_spec_NewGroup_yes n hn) rfl rfl rfl (Nat.le_of_ble_eq_true rfl) ?_)
    | (show Go.Ab.CallD _ _ _ _ _ _ _; refine CallDF (c_spec_NewGroup_yes n hn) rfl rfl ⟨rfl, rfl⟩ ?_)
    | refine ix_map_at hx ?_
    | refine ix_map_at hy ?_
    | refine sl_pre (by omega) (fun _ => rfl) ?_
    | refine sl_suf (by omega) (fun _ => rfl) ?_
    | (refine ix_map2 hx (by omega) (by (try simp only [List.length_take]); omega) (fun y hy => ?_); try simp only [Int.toNat_natCast] at hy)
    | (refine ix_map (by omega) (by (try simp only [List.length_take]); omega) (fun x hx => ?_); try simp only [Int.toNat_natCast] at hx)
    | refine side_and (side_of (by first | (and_intros <;> first | exact Nat.le_of_ble_eq_true rfl | rfl | omega | (simp only [List.length_map, List.length_append, List.length_replicate, List.length_take, List.length_cons, List.length_nil, List.length_drop, List.length_set, markList_length, midL_len, mkL_length]; omega) | exact bytes_ok (Nat.le_of_ble_eq_true rfl) (by omega) (by simp only [List.length_map, List.length_append, List.length_replicate, List.length_take, List.length_cons, List.length_nil, List.length_drop, List.length_set, markList_length, midL_len, mkL_length]; omega) | exact bytes_okN (Nat.le_of_ble_eq_true rfl) (by simp only [List.length_map, List.length_append, List.length_replicate, List.length_take, List.length_cons, List.length_nil, List.length_drop, List.length_set, markList_length, midL_len, mkL_length]; omega)) | fail)) ?_
    | refine nilB_intro (fun h => ?_) ?_
    | refine side_and (side_of (show Go.Ab.structOk _ _ = true by kernel_rfl)) ?_
    | refine side_and (side_of (map_len (fun _ => rfl))) ?_
    | refine side_and (side_of (map_one (fun _ => rfl) _)) ?_
    | refine side_and ?_ ?_
    | refine LoadK_of rfl rfl ?_
    | refine LoadD_cel rfl rfl rfl rfl ?_
    | refine LoadD_of rfl ?_
    | refine StoreD_of rfl rfl rfl ?_
    | refine AppD_of rfl (by and_intros <;> first | rfl | decide) (by simp only [List.length_map, List.length_append, List.length_take, List.length_cons, List.length_nil]; first | (refine ⟨by omega, ?_⟩; refine Nat.le_trans (Nat.mul_le_mul_left _ (show _ ≤ 512 by decide)) ?_; omega) | fail) ?_
    | refine AppN_of rfl rfl (by and_intros <;> rfl) (by simp only [List.length_map, List.length_append, List.length_take, List.length_cons, List.length_nil]; first | (refine ⟨by omega, ?_⟩; refine Nat.le_trans (Nat.mul_le_mul_left _ (show _ ≤ 512 by decide)) ?_; omega) | fail) ?_
    | (show False; omega)
  all_goals
    conv => whnf
    refine OutA_prom [(4112, ReplicaT.shp), (16416, DiskT.shp)] ⟨⟨_, _, _, rfl, flat_repR n⟩, ⟨_, _, _, rfl, flat_repD n⟩, trivial⟩ ?_
    conv => whnf
    refine OutA_deNil 4112 rfl rfl ?_
    conv => whnf
    refine OutA_frz [4112, 16416] ?_
    conv => whnf
    exact OutA_plain rfl rfl (hs_tup n)
theorem c_impl_NewHouse_no (m : Int) (hm : isMany m = false) : PC Try.prog false 28 [.int .i64 m] (.tup [.agg [.own 0, .int .i64 0, .int .i64 0, .own 1], .bool false]) [⟨.deep ReplicaT.shp, 101, 3, []⟩, ⟨.deep DiskT.shp, 106, 2, []⟩] := by
  refine pc_at Try.func28 rfl (by kernel_rfl) 18 [.cell 2 52, .tmp 3] rfl rfl ?_
  repeat' (conv => whnf); first
    | refine nameB_true ?_
    | refine nameB_false ?_
    | refine nameB_yes (by assumption) ?_
    | refine nameB_no (by assumption) ?_
    | refine nameB_dyes (by assumption) ?_
    | refine nameB_dno (by assumption) ?_
    | (refine nameB_dec (fun h => ?_) (fun h => ?_) <;> try simp only [List.length_map, List.length_take, List.length_append, List.length_drop, List.length_set, markList_length, midL_len, mkL_length, Int.toNat_natCast, fact_byte] at h)
    | (refine nameB_cases (fun h => ?_) (fun h => ?_) <;> try simp only [bne_iff_ne, ne_eq, bne_eq_false_iff_eq, beq_iff_eq, beq_eq_false_iff_ne, Bool.not_eq_true', Bool.not_eq_false', Bool.or_eq_true, Bool.or_eq_false_iff, List.length_map, List.length_take, List.length_append, List.length_drop, List.length_set, markList_length, midL_len, mkL_length, Int.toNat_natCast, fact_byte] at h)
    | refine splitB_true ?_
    | refine splitB_false ?_
    | (refine splitB_intro (fun h => ?_) (fun h => ?_) <;> subst h)
    | refine draw_text (by kernel_rfl) (by kernel_rfl) (by kernel_rfl) ?_
    | refine both_intro ?_ ?_
    | exact True.intro
    | (show Go.Ab.CallA _ _ _ _ _ _ _; refine Call0 (c_impl_NewGroup_no m hm) rfl rfl ?_)
    | (show Go.Ab.CallD _ _ _ _ _ _ _; refine CallD0 (c_impl_NewGroup_no m hm) rfl rfl rfl ?_)
    | refine ix_map_at hx ?_
    | refine ix_map_at hy ?_
    | refine sl_pre (by omega) (fun _ => rfl) ?_
    | refine sl_suf (by omega) (fun _ => rfl) ?_
    | (refine ix_map2 hx (by omega) (by (try simp only [List.length_take]); omega) (fun y hy => ?_); try simp only [Int.toNat_natCast] at hy)
    | (refine ix_map (by omega) (by (try simp only [List.length_take]); omega) (fun x hx => ?_); try simp only [Int.toNat_natCast] at hx)
    | refine side_and (side_of (by first | (and_intros <;> first | exact Nat.le_of_ble_eq_true rfl | rfl | omega | (simp only [List.length_map, List.length_append, List.length_replicate, List.length_take, List.length_cons, List.length_nil, List.length_drop, List.length_set, markList_length, midL_len, mkL_length]; omega) | exact bytes_ok (Nat.le_of_ble_eq_true rfl) (by omega) (by simp only [List.length_map, List.length_append, List.length_replicate, List.length_take, List.length_cons, List.length_nil, List.length_drop, List.length_set, markList_length, midL_len, mkL_length]; omega) | exact bytes_okN (Nat.le_of_ble_eq_true rfl) (by simp only [List.length_map, List.length_append, List.length_replicate, List.length_take, List.length_cons, List.length_nil, List.length_drop, List.length_set, markList_length, midL_len, mkL_length]; omega)) | fail)) ?_
    | refine nilB_intro (fun h => ?_) ?_
    | refine side_and (side_of (show Go.Ab.structOk _ _ = true by kernel_rfl)) ?_
    | refine side_and (side_of (map_len (fun _ => rfl))) ?_
    | refine side_and (side_of (map_one (fun _ => rfl) _)) ?_
    | refine side_and ?_ ?_
    | refine LoadK_of rfl rfl ?_
    | refine LoadD_cel rfl rfl rfl rfl ?_
    | refine LoadD_of rfl ?_
    | refine StoreD_of rfl rfl rfl ?_
    | refine AppD_of rfl (by and_intros <;> first | rfl | decide) (by simp only [List.length_map, List.length_append, List.length_take, List.length_cons, List.length_nil]; first | (refine ⟨by omega, ?_⟩; refine Nat.le_trans (Nat.mul_le_mul_left _ (show _ ≤ 512 by decide)) ?_; omega) | fail) ?_
    | refine AppN_of rfl rfl (by and_intros <;> rfl) (by simp only [List.length_map, List.length_append, List.length_take, List.length_cons, List.length_nil]; first | (refine ⟨by omega, ?_⟩; refine Nat.le_trans (Nat.mul_le_mul_left _ (show _ ≤ 512 by decide)) ?_; omega) | fail) ?_
    | (show False; omega)
  all_goals
    conv => whnf
    refine OutA_nilB 0 1 101 3 0 rfl rfl rfl (by decide) ?_
    refine OutA_nilB 0 2 106 2 3 rfl rfl rfl (by decide) ?_
    refine OutA_prom [(1, ReplicaT.shp), (2, DiskT.shp)] ⟨⟨_, _, _, rfl, prom_nil⟩, ⟨_, _, _, rfl, prom_nil⟩, trivial⟩ ?_
    conv => whnf
    exact OutA_deep rfl rfl rfl ⟨⟨rfl, rfl⟩, ⟨rfl, rfl⟩, trivial⟩ rfl
theorem c_spec_NewHouse_no (m : Int) (hm : isMany m = false) : PC Try.prog true 27 [.int .i64 m] (.tup [.agg (⟨⟨[], 0, 0⟩, []⟩ : HouseT).cells, .bool false]) [] := by
  refine pc_at Try.func27 rfl (by kernel_rfl) 18 [.cell 2 52, .tmp 3] rfl rfl ?_
  repeat' (conv => whnf); first
    | refine nameB_true ?_
    | refine nameB_false ?_
    | refine nameB_yes (by assumption) ?_
    | refine nameB_no (by assumption) ?_
    | refine nameB_dyes (by assumption) ?_
    | refine nameB_dno (by assumption) ?_
    | (refine nameB_dec (fun h => ?_) (fun h => ?_) <;> try simp only [List.length_map, List.length_take, List.length_append, List.length_drop, List.length_set, markList_length, midL_len, mkL_length, Int.toNat_natCast, fact_byte] at h)
    | (refine nameB_cases (fun h => ?_) (fun h => ?_) <;> try simp only [bne_iff_ne, ne_eq, bne_eq_false_iff_eq, beq_iff_eq, beq_eq_false_iff_ne, Bool.not_eq_true', Bool.not_eq_false', Bool.or_eq_true, Bool.or_eq_false_iff, List.length_map, List.length_take, List.length_append, List.length_drop, List.length_set, markList_length, midL_len, mkL_length, Int.toNat_natCast, fact_byte] at h)
    | refine splitB_true ?_
    | refine splitB_false ?_
    | (refine splitB_intro (fun h => ?_) (fun h => ?_) <;> subst h)
    | refine draw_text (by kernel_rfl) (by kernel_rfl) (by kernel_rfl) ?_
    | refine both_intro ?_ ?_
    | exact True.intro
    | (show Go.Ab.CallA _ _ _ _ _ _ _; refine Call0 (c_spec_NewGroup_no m hm) rfl rfl ?_)
    | (show Go.Ab.CallD _ _ _ _ _ _ _; refine CallD0 (c_spec_NewGroup_no m hm) rfl rfl rfl ?_)
    | refine ix_map_at hx ?_
    | refine ix_map_at hy ?_
    | refine sl_pre (by omega) (fun _ => rfl) ?_
    | refine sl_suf (by omega) (fun _ => rfl) ?_
    | (refine ix_map2 hx (by omega) (by (try simp only [List.length_take]); omega) (fun y hy => ?_); try simp only [Int.toNat_natCast] at hy)
    | (refine ix_map (by omega) (by (try simp only [List.length_take]); omega) (fun x hx => ?_); try simp only [Int.toNat_natCast] at hx)
    | refine side_and (side_of (by first | (and_intros <;> first | exact Nat.le_of_ble_eq_true rfl | rfl | omega | (simp only [List.length_map, List.length_append, List.length_replicate, List.length_take, List.length_cons, List.length_nil, List.length_drop, List.length_set, markList_length, midL_len, mkL_length]; omega) | exact bytes_ok (Nat.le_of_ble_eq_true rfl) (by omega) (by simp only [List.length_map, List.length_append, List.length_replicate, List.length_take, List.length_cons, List.length_nil, List.length_drop, List.length_set, markList_length, midL_len, mkL_length]; omega) | exact bytes_okN (Nat.le_of_ble_eq_true rfl) (by simp only [List.length_map, List.length_append, List.length_replicate, List.length_take, List.length_cons, List.length_nil, List.length_drop, List.length_set, markList_length, midL_len, mkL_length]; omega)) | fail)) ?_
    | refine nilB_intro (fun h => ?_) ?_
    | refine side_and (side_of (show Go.Ab.structOk _ _ = true by kernel_rfl)) ?_
    | refine side_and (side_of (map_len (fun _ => rfl))) ?_
    | refine side_and (side_of (map_one (fun _ => rfl) _)) ?_
    | refine side_and ?_ ?_
    | refine LoadK_of rfl rfl ?_
    | refine LoadD_cel rfl rfl rfl rfl ?_
    | refine LoadD_of rfl ?_
    | refine StoreD_of rfl rfl rfl ?_
    | refine AppD_of rfl (by and_intros <;> first | rfl | decide) (by simp only [List.length_map, List.length_append, List.length_take, List.length_cons, List.length_nil]; first | (refine ⟨by omega, ?_⟩; refine Nat.le_trans (Nat.mul_le_mul_left _ (show _ ≤ 512 by decide)) ?_; omega) | fail) ?_
    | refine AppN_of rfl rfl (by and_intros <;> rfl) (by simp only [List.length_map, List.length_append, List.length_take, List.length_cons, List.length_nil]; first | (refine ⟨by omega, ?_⟩; refine Nat.le_trans (Nat.mul_le_mul_left _ (show _ ≤ 512 by decide)) ?_; omega) | fail) ?_
    | (show False; omega)
  all_goals
    conv => whnf
    refine OutA_nilB 0 1 101 3 0 rfl rfl rfl (by decide) ?_
    refine OutA_nilB 0 2 106 2 3 rfl rfl rfl (by decide) ?_
    refine OutA_frz [1, 2] ?_
    conv => whnf
    exact OutA_plain rfl rfl rfl
theorem newHouse_ok (m : Int) : (newHouse m).ok := by
  cases h : isMany m with
  | true =>
    obtain ⟨n, rfl, hn⟩ := isMany_nat h
    rw [newHouse_yes hn]
    rcases hn with rfl | rfl
    · exact ⟨⟨⟨Nat.le_of_ble_eq_true rfl, fun x hx => by rw [List.eq_of_mem_replicate hx]; exact ⟨trivial, ⟨Nat.zero_le _, fun _ h => by cases h⟩, trivial⟩⟩, trivial, trivial⟩, ⟨Nat.le_of_ble_eq_true rfl, fun x hx => by rw [List.eq_of_mem_replicate hx]; exact ⟨Nat.zero_le _, Nat.zero_le _⟩⟩⟩
    · exact ⟨⟨⟨Nat.le_of_ble_eq_true rfl, fun x hx => by rw [List.eq_of_mem_replicate hx]; exact ⟨trivial, ⟨Nat.zero_le _, fun _ h => by cases h⟩, trivial⟩⟩, trivial, trivial⟩, ⟨Nat.le_of_ble_eq_true rfl, fun x hx => by rw [List.eq_of_mem_replicate hx]; exact ⟨Nat.zero_le _, Nat.zero_le _⟩⟩⟩
  | false =>
    rw [newHouse_no h]
    exact ⟨⟨⟨Nat.zero_le _, fun _ h => by cases h⟩, trivial, trivial⟩, ⟨Nat.zero_le _, fun _ h => by cases h⟩⟩
theorem newHouse_w (m : Int) : (newHouse m).w ≤ 1000 := by
  cases h : isMany m with
  | true =>
    obtain ⟨n, rfl, hn⟩ := isMany_nat h
    rw [newHouse_yes hn]
    rcases hn with rfl | rfl <;> decide
  | false =>
    rw [newHouse_no h]
    decide
theorem c_spec_NewHouse (m : Int) : PC Try.prog true 27 [.int .i64 m] (.tup [.agg (newHouse m).cells, .bool (isMany m)]) [] := by
  cases h : isMany m with
  | true =>
    obtain ⟨n, rfl, hn⟩ := isMany_nat h
    rw [newHouse_yes hn]
    exact c_spec_NewHouse_yes n hn
  | false =>
    rw [newHouse_no h]
    exact c_spec_NewHouse_no m h
theorem c_impl_NewHouse (m : Int) : PC Try.prog false 28 [.int .i64 m] (.tup [.agg [.own 0, .int .i64 (newHouse m).Group.Term, .int .i64 (newHouse m).Group.Lead, .own 1], .bool (isMany m)]) [⟨.deep ReplicaT.shp, 101, 3, (newHouse m).Group.Reps.map ReplicaT.cells⟩, ⟨.deep DiskT.shp, 106, 2, (newHouse m).Disks.map DiskT.cells⟩] := by
  cases h : isMany m with
  | true =>
    obtain ⟨n, rfl, hn⟩ := isMany_nat h
    rw [newHouse_yes hn]
    exact c_impl_NewHouse_yes n hn
  | false =>
    rw [newHouse_no h]
    exact c_impl_NewHouse_no m h
theorem law_NewHouse (W : HouseT) (m : Int) (b : Bool) (hW : W.ok) (hww : W.w ≤ 1000)
    (hS : PC Try.prog true 27 [.int .i64 m] (.tup [.agg W.cells, .bool b]) [])
    (hI : PC Try.prog false 28 [.int .i64 m] (.tup [.agg [.own 0, .int .i64 W.Group.Term, .int .i64 W.Group.Lead, .own 1], .bool b]) [⟨.deep ReplicaT.shp, 101, 3, W.Group.Reps.map ReplicaT.cells⟩, ⟨.deep DiskT.shp, 106, 2, W.Disks.map DiskT.cells⟩]) :
    PC Try.prog false 6 [.int .i64 m] (.bool true) [] := by
  have hm2 := HouseT.cntS_w W 1
  refine pc_at Try.func6 rfl (by kernel_rfl) 63 [.tmp 2] rfl rfl ?_
  repeat' (conv => whnf); first
    | refine nameB_self (b := b) ?_
    | refine nameB_no (b := !(b == b)) (by simp) ?_
    | refine nameB_dno (by omega) ?_
    | refine nameB_true ?_
    | refine nameB_false ?_
    | refine nameB_yes (by assumption) ?_
    | refine nameB_no (by assumption) ?_
    | refine nameB_dyes (by assumption) ?_
    | refine nameB_dno (by assumption) ?_
    | (refine nameB_dec (fun h => ?_) (fun h => ?_) <;> try simp only [List.length_map, List.length_take, List.length_append, List.length_drop, List.length_set, markList_length, midL_len, mkL_length, Int.toNat_natCast, fact_byte] at h)
    | (refine nameB_cases (fun h => ?_) (fun h => ?_) <;> try simp only [bne_iff_ne, ne_eq, bne_eq_false_iff_eq, beq_iff_eq, beq_eq_false_iff_ne, Bool.not_eq_true', Bool.not_eq_false', Bool.or_eq_true, Bool.or_eq_false_iff, List.length_map, List.length_take, List.length_append, List.length_drop, List.length_set, markList_length, midL_len, mkL_length, Int.toNat_natCast, fact_byte] at h)
    | refine splitB_true ?_
    | refine splitB_false ?_
    | (refine splitB_intro (fun h => ?_) (fun h => ?_) <;> subst h)
    | refine draw_text (by kernel_rfl) (by kernel_rfl) (by kernel_rfl) ?_
    | refine both_intro ?_ ?_
    | exact True.intro
    | (show Go.Ab.CallA _ _ _ _ _ _ _; first
        | refine CallT (hS) rfl rfl rfl rfl (Nat.le_of_ble_eq_true rfl) ?_
        | refine CallF (hI) rfl rfl rfl (Nat.le_of_ble_eq_true rfl) ?_
        | refine Call0 (pc_true (c_laws_eqHouse W W hW) rfl) rfl rfl ?_
        | refine CallMs (m_laws_markHouse W 1 (by omega) (by omega)) [] trivial rfl rfl ?_
        | refine CallM1 (m_laws_markHouse W 1 (by omega) (by omega)) [] trivial rfl rfl ?_
        | refine Call0 (c_laws_heldHouse W 1 (by omega) (by omega)) rfl rfl ?_)
    | refine ix_map_at hx ?_
    | refine ix_map_at hy ?_
    | refine sl_pre (by omega) (fun _ => rfl) ?_
    | refine sl_suf (by omega) (fun _ => rfl) ?_
    | (refine ix_map2 hx (by omega) (by (try simp only [List.length_take]); omega) (fun y hy => ?_); try simp only [Int.toNat_natCast] at hy)
    | (refine ix_map (by omega) (by (try simp only [List.length_take]); omega) (fun x hx => ?_); try simp only [Int.toNat_natCast] at hx)
    | refine side_and (side_of (by first | (and_intros <;> first | exact Nat.le_of_ble_eq_true rfl | rfl | omega | (simp only [List.length_map, List.length_append, List.length_replicate, List.length_take, List.length_cons, List.length_nil, List.length_drop, List.length_set, markList_length, midL_len, mkL_length]; omega) | exact bytes_ok (Nat.le_of_ble_eq_true rfl) (by omega) (by simp only [List.length_map, List.length_append, List.length_replicate, List.length_take, List.length_cons, List.length_nil, List.length_drop, List.length_set, markList_length, midL_len, mkL_length]; omega) | exact bytes_okN (Nat.le_of_ble_eq_true rfl) (by simp only [List.length_map, List.length_append, List.length_replicate, List.length_take, List.length_cons, List.length_nil, List.length_drop, List.length_set, markList_length, midL_len, mkL_length]; omega)) | fail)) ?_
    | refine nilB_intro (fun h => ?_) ?_
    | refine side_and (side_of (show Go.Ab.structOk _ _ = true by kernel_rfl)) ?_
    | refine side_and (side_of (map_len (fun _ => rfl))) ?_
    | refine side_and (side_of (map_one (fun _ => rfl) _)) ?_
    | refine side_and ?_ ?_
    | refine LoadK_of rfl rfl ?_
    | refine LoadD_cel rfl rfl rfl rfl ?_
    | refine LoadD_of rfl ?_
    | refine StoreD_of rfl rfl rfl ?_
    | refine AppD_of rfl (by and_intros <;> first | rfl | decide) (by simp only [List.length_map, List.length_append, List.length_take, List.length_cons, List.length_nil]; first | (refine ⟨by omega, ?_⟩; refine Nat.le_trans (Nat.mul_le_mul_left _ (show _ ≤ 512 by decide)) ?_; omega) | fail) ?_
    | refine AppN_of rfl rfl (by and_intros <;> rfl) (by simp only [List.length_map, List.length_append, List.length_take, List.length_cons, List.length_nil]; first | (refine ⟨by omega, ?_⟩; refine Nat.le_trans (Nat.mul_le_mul_left _ (show _ ≤ 512 by decide)) ?_; omega) | fail) ?_
    | (show False; omega)
  all_goals
    conv => whnf
    refine OutA_plain rfl rfl ?_
    first | rfl | (exfalso; omega) | (exfalso; simp at * <;> omega)
theorem c_laws_FnExactNewHouse (m : Int) : PC Try.prog false 6 [.int .i64 m] (.bool true) [] :=
  law_NewHouse (newHouse m) m (isMany m) (newHouse_ok m) (newHouse_w m) (c_spec_NewHouse m) (c_impl_NewHouse m)
end Go.Proofs.Ytkalobhgonaibaa
