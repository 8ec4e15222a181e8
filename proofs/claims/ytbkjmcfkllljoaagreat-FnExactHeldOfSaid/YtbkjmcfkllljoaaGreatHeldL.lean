/-
  HeldOf's law.
  No condition.
-/
import Derived.Test.YtbkjmcfkllljoaaGreatHeldx
namespace Go.Proofs.YtbkjmcfkllljoaaGreat
open Go.Ab
set_option linter.unusedSimpArgs false
set_option maxRecDepth 20000
set_option maxHeartbeats 4000000
set_option linter.unusedVariables false

theorem law_HeldOf (a : StateT) (t : Int) (W : HeldT) (b : Bool) (hok : a.ok) (hW : W.ok) (hww : W.w ≤ 1048576)
    (hS : a.w ≤ 1048576 → PC Tryz.prog true 71 [.agg a.cells, .int .i64 t] (.tup [.agg W.cells, .bool b]) [])
    (hI : a.w ≤ 1048576 → PC Tryz.prog false 72 [.agg a.cells, .int .i64 t] (.tup [.agg [.int .i64 W.Txn, .int .i64 W.Time, .int .i64 W.Lead, .own 0, .own 1], .bool b]) (heldOs W.Reads W.Writes)) :
    PC Tryz.prog false 10 [.agg a.cells, .int .i64 t] (.bool true) [] := by
  have hm1 := StateT.cntS_w a 1
  have hm2 := HeldT.cntS_w W 1
  refine pc_at Tryz.func10 rfl (by kernel_rfl) 101 [.tmp 4] rfl rfl ?_
  repeat' (conv => whnf); first
    | refine nameB_self (b := b) ?_
    | refine nameB_no (b := !(b == b)) (by simp) ?_
    | refine nameB_dno (by omega) ?_
    | refine nameB_true ?_
    | refine nameB_false ?_
    | refine nameB_yes (by assumption) ?_
    | refine nameB_no (by assumption) ?_
    | refine nameB_dyes (by assumption) ?_
    | refine nameB_dno (by assumption) ?_
    | (refine nameB_dec (fun h => ?_) (fun h => ?_) <;> try simp only [List.length_map, List.length_take, List.length_append, List.length_drop, List.length_set, markList_length, midL_len, mkL_length, Int.toNat_natCast, fact_byte] at h)
    | (refine nameB_cases (fun h => ?_) (fun h => ?_) <;> try simp only [bne_iff_ne, ne_eq, bne_eq_false_iff_eq, beq_iff_eq, beq_eq_false_iff_ne, Bool.not_eq_true', Bool.not_eq_false', Bool.or_eq_true, Bool.or_eq_false_iff, List.length_map, List.length_take, List.length_append, List.length_drop, List.length_set, markList_length, midL_len, mkL_length, Int.toNat_natCast, fact_byte] at h)
    | refine splitB_true ?_
    | refine splitB_false ?_
    | (refine splitB_intro (fun h => ?_) (fun h => ?_) <;> subst h)
    | refine draw_text (by kernel_rfl) (by kernel_rfl) (by kernel_rfl) ?_
    | refine both_intro ?_ ?_
    | exact True.intro
    | (show Go.Ab.CallA _ _ _ _ _ _ _; first
        | (by_cases hn : (1048576 : Int) - ((StateT.w a : Nat) : Int) < 0 <;> first | refine Call0 (pc_szneg (c_laws_szState a (1048576 : Int) (by omega) (by omega) hok) hn) rfl rfl ?_ | refine Call0 (pc_szpos (c_laws_szState a (1048576 : Int) (by omega) (by omega) hok) hn) rfl rfl ?_)
        | refine CallT (hS (by omega)) rfl rfl rfl rfl (Nat.le_of_ble_eq_true rfl) ?_
        | refine CallT (nid := 20496) (c_laws_toState_ro a (by omega)) rfl rfl rfl rfl (Nat.le_of_ble_eq_true rfl) ?_
        | refine CallF (hI (by omega)) rfl rfl rfl (Nat.le_of_ble_eq_true rfl) ?_
        | refine CallF (c_laws_toState a (by omega)) rfl rfl rfl (Nat.le_of_ble_eq_true rfl) ?_
        | refine Call0 (pc_true (c_laws_eqHeld W W hW) rfl) rfl rfl ?_
        | refine Call0 (pc_true (c_laws_eqState a a hok) rfl) rfl rfl ?_
        | refine CallMs (m_laws_markState a 1 (by omega) (by omega)) [] trivial rfl rfl ?_
        | refine CallM1 (m_laws_markState a 1 (by omega) (by omega)) [] trivial rfl rfl ?_
        | refine CallMs (m_laws_markHeld W 1 (by omega) (by omega)) [(28704, [.leaf]), (28705, WriteT.shp)] ⟨⟨_, _, _, rfl, by first | exact prom_map (fun _ => rfl) | exact prom_nil⟩, ⟨⟨_, _, _, rfl, by first | exact prom_map (fun _ => rfl) | exact prom_nil⟩, trivial⟩⟩ rfl rfl ?_
        | refine CallM1 (m_laws_markHeld W 1 (by omega) (by omega)) [(28704, [.leaf]), (28705, WriteT.shp)] ⟨⟨_, _, _, rfl, by first | exact prom_map (fun _ => rfl) | exact prom_nil⟩, ⟨⟨_, _, _, rfl, by first | exact prom_map (fun _ => rfl) | exact prom_nil⟩, trivial⟩⟩ rfl rfl ?_
        | refine Call0 (c_laws_heldHeld W 1 (by omega) (by omega)) rfl rfl ?_)
    | (show Go.Ab.CallD _ _ _ _ _ _ _; first
        | (by_cases hn : (1048576 : Int) - ((StateT.w a : Nat) : Int) < 0 <;> first | refine CallD0 (pc_szneg (c_laws_szState a (1048576 : Int) (by omega) (by omega) hok) hn) rfl rfl rfl ?_ | refine CallD0 (pc_szpos (c_laws_szState a (1048576 : Int) (by omega) (by omega) hok) hn) rfl rfl rfl ?_)
        | refine CallDT (hS (by omega)) rfl rfl rfl ⟨rfl, rfl⟩ ?_
        | refine CallDT (nid := 20496) (c_laws_toState_ro a (by omega)) rfl rfl rfl ⟨rfl, rfl⟩ ?_
        | refine CallDF (hI (by omega)) rfl rfl ⟨rfl, rfl⟩ ?_
        | refine CallDF (c_laws_toState a (by omega)) rfl rfl ⟨rfl, rfl⟩ ?_
        | refine CallD0 (pc_true (c_laws_eqHeld W W hW) rfl) rfl rfl rfl ?_
        | refine CallD0 (pc_true (c_laws_eqState a a hok) rfl) rfl rfl rfl ?_
        | refine CallD0 (c_laws_heldHeld W 1 (by omega) (by omega)) rfl rfl rfl ?_)
    | refine ix_map_at hx ?_
    | refine ix_map_at hy ?_
    | refine sl_pre (by omega) (fun _ => rfl) ?_
    | refine sl_suf (by omega) (fun _ => rfl) ?_
    | (refine ix_map2 hx (by omega) (by (try simp only [List.length_take]); omega) (fun y hy => ?_); try simp only [Int.toNat_natCast] at hy)
    | (refine ix_map (by omega) (by (try simp only [List.length_take]); omega) (fun x hx => ?_); try simp only [Int.toNat_natCast] at hx)
    | refine side_and (side_of (by first | (and_intros <;> first | exact Nat.le_of_ble_eq_true rfl | rfl | omega | (simp only [List.length_map, List.length_append, List.length_replicate, List.length_take, List.length_cons, List.length_nil, List.length_drop, List.length_set, markList_length, midL_len, mkL_length]; omega) | exact bytes_ok (Nat.le_of_ble_eq_true rfl) (by omega) (by simp only [List.length_map, List.length_append, List.length_replicate, List.length_take, List.length_cons, List.length_nil, List.length_drop, List.length_set, markList_length, midL_len, mkL_length]; omega) | exact bytes_okN (Nat.le_of_ble_eq_true rfl) (by simp only [List.length_map, List.length_append, List.length_replicate, List.length_take, List.length_cons, List.length_nil, List.length_drop, List.length_set, markList_length, midL_len, mkL_length]; omega)) | fail)) ?_
    | refine nilB_intro (fun h => ?_) ?_
    | refine side_and (side_of (show Go.Ab.structOk _ _ = true by kernel_rfl)) ?_
    | refine side_and (side_of (map_len (fun _ => rfl))) ?_
    | refine side_and (side_of (map_one (fun _ => rfl) _)) ?_
    | refine side_and ?_ ?_
    | refine LoadK_of rfl rfl ?_
    | refine LoadD_cel rfl rfl rfl rfl ?_
    | refine LoadD_of rfl ?_
    | refine StoreD_of rfl rfl rfl ?_
    | refine AppD_of rfl (by and_intros <;> first | rfl | decide) (by simp only [List.length_map, List.length_append, List.length_take, List.length_cons, List.length_nil]; first | (refine ⟨by omega, ?_⟩; refine Nat.le_trans (Nat.mul_le_mul_left _ (show _ ≤ 512 by decide)) ?_; omega) | fail) ?_
    | refine AppN_of rfl rfl (by and_intros <;> rfl) (by simp only [List.length_map, List.length_append, List.length_take, List.length_cons, List.length_nil]; first | (refine ⟨by omega, ?_⟩; refine Nat.le_trans (Nat.mul_le_mul_left _ (show _ ≤ 512 by decide)) ?_; omega) | fail) ?_
    | (show False; omega)
  all_goals
    conv => whnf
    refine OutA_plain rfl rfl ?_
    first | rfl | (exfalso; omega) | (exfalso; simp at * <;> omega)
theorem zeroH_ok : zeroH.ok := ⟨trivial, trivial, trivial, ⟨Nat.zero_le _, fun _ h => by cases h⟩, ⟨Nat.zero_le _, fun _ h => by cases h⟩⟩
theorem heldV_ok {s : StateT} {t : Int} (hok : s.ok) : (heldV s t).ok := by
  unfold heldV
  split
  · split
    · rename_i g hg; exact hok.2.2.1.2 g (List.mem_of_find?_eq_some hg)
    · exact zeroH_ok
  · exact zeroH_ok
theorem heldV_w {s : StateT} {t : Int} (hw : s.w ≤ 1048576) : (heldV s t).w ≤ 1048576 := by
  unfold heldV
  split
  · split
    · rename_i g hg
      have h3 : s.w = wL CellT.w s.Cells + wL HeldT.w s.Held + s.Told.length := rfl
      have h4 := (wL_mem (w := HeldT.w) (List.mem_of_find?_eq_some hg)).2
      omega
    · decide
  · decide
theorem c_laws_FnExactHeldOf (a : StateT) (t : Int) (hok : a.ok) : PC Tryz.prog false 10 [.agg a.cells, .int .i64 t] (.bool true) [] := by
  by_cases hw : a.w ≤ 1048576
  · exact law_HeldOf a t (heldV a t) (okHeldOf a t) hok (heldV_ok hok) (heldV_w hw) (c_spec_HeldOf a t hok) (c_impl_HeldOf a t hok)
  · exact law_HeldOf a t zeroH false hok zeroH_ok (by decide) (fun h => absurd h hw) (fun h => absurd h hw)
end Go.Proofs.YtbkjmcfkllljoaaGreat
