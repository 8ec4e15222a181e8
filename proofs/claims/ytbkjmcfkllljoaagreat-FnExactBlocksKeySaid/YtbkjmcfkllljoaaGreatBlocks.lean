/-
  What BlocksKey gives, and its law.
  No condition.
-/
import Derived.Test.YtbkjmcfkllljoaaGreatState12
namespace Go.Proofs.YtbkjmcfkllljoaaGreat
open Go.Ab
set_option linter.unusedSimpArgs false
set_option maxRecDepth 20000
set_option maxHeartbeats 4000000
set_option linter.unusedVariables false

def blkR (s : StateT) (key : List UInt8) (time : Int) : List Int := if okAsk s key time = true then blocksS s key time else []
theorem blkR_yes {s : StateT} {key : List UInt8} {time : Int} (h : okAsk s key time = true) : blkR s key time = blocksS s key time := if_pos h
theorem blkR_no {s : StateT} {key : List UInt8} {time : Int} (h : okAsk s key time = false) : blkR s key time = [] := if_neg (by rw [h]; simp)
theorem c_impl_BlocksKey_no2 (s : StateT) (key : List UInt8) (time : Int) (hok : s.ok) (hk : okS key) (hw : s.w ≤ 1048576) (h : okAsk s key time = false) : PC Tryz.prog false 78 [.agg s.cells, .str key, .int .i64 time] (.tup [.own 0, .bool false]) [⟨false, 3, 1, ([] : List Int).map intC⟩] := by
  refine pc_at Tryz.func78 rfl (by kernel_rfl) 25 [.tmp 6, .tmp 7] rfl rfl ?_
  repeat' (conv => whnf); first
    | refine nameB_true ?_
    | refine nameB_false ?_
    | refine nameB_yes (by assumption) ?_
    | refine nameB_no (by assumption) ?_
    | refine nameB_dyes (by assumption) ?_
    | refine nameB_dno (by assumption) ?_
    | (refine nameB_dec (fun h => ?_) (fun h => ?_) <;> try simp only [List.length_map, List.length_take, List.length_append, List.length_drop, List.length_set, markList_length, midL_len, mkL_length, Int.toNat_natCast, fact_byte] at h)
    | (refine nameB_cases (fun h => ?_) (fun h => ?_) <;> try simp only [bne_iff_ne, ne_eq, bne_eq_false_iff_eq, beq_iff_eq, beq_eq_false_iff_ne, Bool.not_eq_true', Bool.not_eq_false', Bool.or_eq_true, Bool.or_eq_false_iff, List.length_map, List.length_take, List.length_append, List.length_drop, List.length_set, markList_length, midL_len, mkL_length, Int.toNat_natCast, fact_byte] at h)
    | refine splitB_true ?_
    | refine splitB_false ?_
    | (refine splitB_intro (fun h => ?_) (fun h => ?_) <;> subst h)
    | refine draw_text (by kernel_rfl) (by kernel_rfl) (by kernel_rfl) ?_
    | refine both_intro ?_ ?_
    | exact True.intro
    | (show Go.Ab.CallA _ _ _ _ _ _ _; first
        | refine Call0 (c_impl_GoodState2 s hok hw) rfl rfl ?_
        | refine Call0 (c_impl_GoodKey key hk) rfl rfl ?_
        | refine Call0 (c_impl_isTrue6 ..) rfl rfl ?_
        | refine CallF (c_impl_State_blocks s key time hok hw) rfl rfl rfl (Nat.le_of_ble_eq_true rfl) ?_)
    | refine ix_map_at hx ?_
    | refine ix_map_at hy ?_
    | refine sl_pre (by omega) (fun _ => rfl) ?_
    | refine sl_suf (by omega) (fun _ => rfl) ?_
    | (refine ix_map2 hx (by omega) (by (try simp only [List.length_take]); omega) (fun y hy => ?_); try simp only [Int.toNat_natCast] at hy)
    | (refine ix_map (by omega) (by (try simp only [List.length_take]); omega) (fun x hx => ?_); try simp only [Int.toNat_natCast] at hx)
    | refine side_and (side_of (by first | (and_intros <;> first | exact Nat.le_of_ble_eq_true rfl | rfl | omega | (simp only [List.length_map, List.length_append, List.length_replicate, List.length_take, List.length_cons, List.length_nil, List.length_drop, List.length_set, markList_length, midL_len, mkL_length]; omega) | exact bytes_ok (Nat.le_of_ble_eq_true rfl) (by omega) (by simp only [List.length_map, List.length_append, List.length_replicate, List.length_take, List.length_cons, List.length_nil, List.length_drop, List.length_set, markList_length, midL_len, mkL_length]; omega) | exact bytes_okN (Nat.le_of_ble_eq_true rfl) (by simp only [List.length_map, List.length_append, List.length_replicate, List.length_take, List.length_cons, List.length_nil, List.length_drop, List.length_set, markList_length, midL_len, mkL_length]; omega)) | fail)) ?_
    | refine nilB_intro (fun h => ?_) ?_
    | refine side_and (side_of (show Go.Ab.structOk _ _ = true by kernel_rfl)) ?_
    | refine side_and (side_of (map_len (fun _ => rfl))) ?_
    | refine side_and (side_of (map_one (fun _ => rfl) _)) ?_
    | refine side_and ?_ ?_
    | refine LoadK_of rfl rfl ?_
    | refine LoadD_cel rfl rfl rfl rfl ?_
    | refine LoadD_of rfl ?_
    | refine StoreD_of rfl rfl rfl ?_
    | refine AppD_of rfl (by and_intros <;> first | rfl | decide) (by simp only [List.length_map, List.length_append, List.length_take, List.length_cons, List.length_nil]; first | (refine ⟨by omega, ?_⟩; refine Nat.le_trans (Nat.mul_le_mul_left _ (show _ ≤ 512 by decide)) ?_; omega) | fail) ?_
    | refine AppN_of rfl rfl (by and_intros <;> rfl) (by simp only [List.length_map, List.length_append, List.length_take, List.length_cons, List.length_nil]; first | (refine ⟨by omega, ?_⟩; refine Nat.le_trans (Nat.mul_le_mul_left _ (show _ ≤ 512 by decide)) ?_; omega) | fail) ?_
    | (show False; omega)
  all_goals
    conv => whnf
    first
    | exact OutA_nil 6 1 3 1 rfl rfl (by decide) (OutA_ids rfl rfl rfl ⟨⟨_, _, _, rfl, rfl⟩, trivial⟩ rfl (.inr (flat_one (flat_map (fun _ => rfl) ([] : List Int)))))
    | (exfalso; simp_all [okAsk]; done)
theorem c_impl_BlocksKey (s : StateT) (key : List UInt8) (time : Int) (hok : s.ok) (hk : okS key) (hw : s.w ≤ 1048576) : PC Tryz.prog false 78 [.agg s.cells, .str key, .int .i64 time] (.tup [.own 0, .bool (okAsk s key time)]) [⟨false, 3, 1, (blkR s key time).map intC⟩] := by
  cases h : okAsk s key time with
  | true => rw [blkR_yes h]; exact c_impl_BlocksKey_yes s key time hok hk hw h
  | false => rw [blkR_no h]; exact c_impl_BlocksKey_no2 s key time hok hk hw h
theorem c_spec_BlocksKey (s : StateT) (key : List UInt8) (time : Int) (hok : s.ok) (hk : okS key) (hw : s.w ≤ 1048576) : PC Tryz.prog true 77 [.agg s.cells, .str key, .int .i64 time] (.tup [.sl ((blkR s key time).map intC), .bool (okAsk s key time)]) [] := by
  refine pc_at Tryz.func77 rfl (by kernel_rfl) 25 [.tmp 6, .tmp 7] rfl rfl ?_
  repeat' (conv => whnf); first
    | (refine nameB_cases (b := okStateS s) (fun h => ?_) (fun h => ?_))
    | (refine nameB_cases (b := okKey key) (fun h => ?_) (fun h => ?_))
    | refine nameB_true ?_
    | refine nameB_false ?_
    | refine nameB_yes (by assumption) ?_
    | refine nameB_no (by assumption) ?_
    | refine nameB_dyes (by assumption) ?_
    | refine nameB_dno (by assumption) ?_
    | (refine nameB_dec (fun h => ?_) (fun h => ?_) <;> try simp only [List.length_map, List.length_take, List.length_append, List.length_drop, List.length_set, markList_length, midL_len, mkL_length, Int.toNat_natCast, fact_byte] at h)
    | (refine nameB_cases (fun h => ?_) (fun h => ?_) <;> try simp only [bne_iff_ne, ne_eq, bne_eq_false_iff_eq, beq_iff_eq, beq_eq_false_iff_ne, Bool.not_eq_true', Bool.not_eq_false', Bool.or_eq_true, Bool.or_eq_false_iff, List.length_map, List.length_take, List.length_append, List.length_drop, List.length_set, markList_length, midL_len, mkL_length, Int.toNat_natCast, fact_byte] at h)
    | refine splitB_true ?_
    | refine splitB_false ?_
    | (refine splitB_intro (fun h => ?_) (fun h => ?_) <;> subst h)
    | refine draw_text (by kernel_rfl) (by kernel_rfl) (by kernel_rfl) ?_
    | refine both_intro ?_ ?_
    | exact True.intro
    | (show Go.Ab.CallA _ _ _ _ _ _ _; first
        | refine Call0 (c_spec_l13Good s hok hw) rfl rfl ?_
        | refine Call0 (c_spec_l3Key key hk) rfl rfl ?_
        | refine CallI (nid := 4096 * 1 + 16 * 10) (f := 166) Tryz.func166 rfl (by kernel_rfl) 1000000 [1, 2, 3, 16] 5 [.tmp 2] rfl rfl ?_
        | refine Call0 (c_spec_l1In ..) rfl rfl ?_
        | refine CallF (c_spec_l13Blocks s key time hok hw) rfl rfl rfl (Nat.le_of_ble_eq_true rfl) ?_)
    | (show Go.Ab.RetI _ _ _ _ _ _ _ _; refine RetI_of rfl ?_)
    | refine ix_map_at hx ?_
    | refine ix_map_at hy ?_
    | refine sl_pre (by omega) (fun _ => rfl) ?_
    | refine sl_suf (by omega) (fun _ => rfl) ?_
    | (refine ix_map2 hx (by omega) (by (try simp only [List.length_take]); omega) (fun y hy => ?_); try simp only [Int.toNat_natCast] at hy)
    | (refine ix_map (by omega) (by (try simp only [List.length_take]); omega) (fun x hx => ?_); try simp only [Int.toNat_natCast] at hx)
    | refine side_and (side_of (by first | (and_intros <;> first | exact Nat.le_of_ble_eq_true rfl | rfl | omega | (simp only [List.length_map, List.length_append, List.length_replicate, List.length_take, List.length_cons, List.length_nil, List.length_drop, List.length_set, markList_length, midL_len, mkL_length]; omega) | exact bytes_ok (Nat.le_of_ble_eq_true rfl) (by omega) (by simp only [List.length_map, List.length_append, List.length_replicate, List.length_take, List.length_cons, List.length_nil, List.length_drop, List.length_set, markList_length, midL_len, mkL_length]; omega) | exact bytes_okN (Nat.le_of_ble_eq_true rfl) (by simp only [List.length_map, List.length_append, List.length_replicate, List.length_take, List.length_cons, List.length_nil, List.length_drop, List.length_set, markList_length, midL_len, mkL_length]; omega)) | fail)) ?_
    | refine nilB_intro (fun h => ?_) ?_
    | refine side_and (side_of (show Go.Ab.structOk _ _ = true by kernel_rfl)) ?_
    | refine side_and (side_of (map_len (fun _ => rfl))) ?_
    | refine side_and (side_of (map_one (fun _ => rfl) _)) ?_
    | refine side_and ?_ ?_
    | refine LoadK_of rfl rfl ?_
    | refine LoadD_cel rfl rfl rfl rfl ?_
    | refine LoadD_of rfl ?_
    | refine StoreD_of rfl rfl rfl ?_
    | refine AppD_of rfl (by and_intros <;> first | rfl | decide) (by simp only [List.length_map, List.length_append, List.length_take, List.length_cons, List.length_nil]; first | (refine ⟨by omega, ?_⟩; refine Nat.le_trans (Nat.mul_le_mul_left _ (show _ ≤ 512 by decide)) ?_; omega) | fail) ?_
    | refine AppN_of rfl rfl (by and_intros <;> rfl) (by simp only [List.length_map, List.length_append, List.length_take, List.length_cons, List.length_nil]; first | (refine ⟨by omega, ?_⟩; refine Nat.le_trans (Nat.mul_le_mul_left _ (show _ ≤ 512 by decide)) ?_; omega) | fail) ?_
    | (show False; omega)
  all_goals
    conv => whnf
    first
    | (have h0 : okAsk s key time = true := (by simp_all [okAsk]; done); rw [h0, blkR_yes h0]; refine OutA_frz [12336] ?_; (conv => whnf); exact OutA_plain rfl rfl rfl)
    | (have h0 : okAsk s key time = false := (by simp_all [okAsk]; done); rw [h0, blkR_no h0]; refine OutA_nil 6 1 3 1 rfl rfl (by decide) ?_; refine OutA_frz [1] ?_; (conv => whnf); exact OutA_plain rfl rfl rfl)
theorem law_BlocksKey (a : StateT) (key : List UInt8) (time : Int) (W : List Int) (b : Bool) (hok : a.ok) (hk : okS key) (hW : okL okT W) (hww : W.length ≤ 4194304)
    (hS : a.w ≤ 1048576 → PC Tryz.prog true 77 [.agg a.cells, .str key, .int .i64 time] (.tup [.sl (W.map intC), .bool b]) [])
    (hI : a.w ≤ 1048576 → PC Tryz.prog false 78 [.agg a.cells, .str key, .int .i64 time] (.tup [.own 0, .bool b]) [⟨false, 3, 1, W.map intC⟩]) :
    PC Tryz.prog false 11 [.agg a.cells, .str key, .int .i64 time] (.bool true) [] := by
  have hm2 := cntL_cnt1 (xs := W)
  have hm1 := StateT.cntS_w a 1
  refine pc_at Tryz.func11 rfl (by kernel_rfl) 109 [.tmp 6] rfl rfl ?_
  repeat' (conv => whnf); first
    | refine nameB_self (b := b) ?_
    | refine nameB_no (b := !(b == b)) (by simp) ?_
    | refine nameB_dno (by omega) ?_
    | refine nameB_true ?_
    | refine nameB_false ?_
    | refine nameB_yes (by assumption) ?_
    | refine nameB_no (by assumption) ?_
    | refine nameB_dyes (by assumption) ?_
    | refine nameB_dno (by assumption) ?_
    | (refine nameB_dec (fun h => ?_) (fun h => ?_) <;> try simp only [List.length_map, List.length_take, List.length_append, List.length_drop, List.length_set, markList_length, midL_len, mkL_length, Int.toNat_natCast, fact_byte] at h)
    | (refine nameB_cases (fun h => ?_) (fun h => ?_) <;> try simp only [bne_iff_ne, ne_eq, bne_eq_false_iff_eq, beq_iff_eq, beq_eq_false_iff_ne, Bool.not_eq_true', Bool.not_eq_false', Bool.or_eq_true, Bool.or_eq_false_iff, List.length_map, List.length_take, List.length_append, List.length_drop, List.length_set, markList_length, midL_len, mkL_length, Int.toNat_natCast, fact_byte] at h)
    | refine splitB_true ?_
    | refine splitB_false ?_
    | (refine splitB_intro (fun h => ?_) (fun h => ?_) <;> subst h)
    | refine draw_text (by kernel_rfl) (by kernel_rfl) (by kernel_rfl) ?_
    | refine both_intro ?_ ?_
    | exact True.intro
    | (show Go.Ab.CallA _ _ _ _ _ _ _; first
        | (by_cases hn : (1048576 : Int) - ((StateT.w a : Nat) : Int) < 0 <;> first | refine Call0 (pc_szneg (c_laws_szState a (1048576 : Int) (by omega) (by omega) hok) hn) rfl rfl ?_ | refine Call0 (pc_szpos (c_laws_szState a (1048576 : Int) (by omega) (by omega) hok) hn) rfl rfl ?_)
        | refine CallT (hS (by omega)) rfl rfl rfl rfl (Nat.le_of_ble_eq_true rfl) ?_
        | refine CallT (nid := 28688) (c_laws_toState_ro a (by omega)) rfl rfl rfl rfl (Nat.le_of_ble_eq_true rfl) ?_
        | refine CallF (hI (by omega)) rfl rfl rfl (Nat.le_of_ble_eq_true rfl) ?_
        | refine CallF (c_laws_toState a (by omega)) rfl rfl rfl (Nat.le_of_ble_eq_true rfl) ?_
        | refine Call0 (pc_true (c_laws_eqIntS W W hW) rfl) rfl rfl ?_
        | refine Call0 (pc_true (c_laws_eqState a a hok) rfl) rfl rfl ?_
        | refine CallMs (m_laws_markState a 1 (by omega) (by omega)) [] trivial rfl rfl ?_
        | refine CallM1 (m_laws_markState a 1 (by omega) (by omega)) [] trivial rfl rfl ?_
        | refine CallMs (m_laws_markIntS W 1 (by omega) (by omega) (by omega)) [(36912, [.leaf])] ⟨⟨_, _, _, rfl, by first | exact prom_map (fun _ => rfl) | exact prom_nil⟩, trivial⟩ rfl rfl ?_
        | refine CallM1 (m_laws_markIntS W 1 (by omega) (by omega) (by omega)) [(36912, [.leaf])] ⟨⟨_, _, _, rfl, by first | exact prom_map (fun _ => rfl) | exact prom_nil⟩, trivial⟩ rfl rfl ?_
        | refine Call0 (c_laws_heldIntS W 1 (by omega) (by omega) (by omega)) rfl rfl ?_)
    | (show Go.Ab.CallD _ _ _ _ _ _ _; first
        | (by_cases hn : (1048576 : Int) - ((StateT.w a : Nat) : Int) < 0 <;> first | refine CallD0 (pc_szneg (c_laws_szState a (1048576 : Int) (by omega) (by omega) hok) hn) rfl rfl rfl ?_ | refine CallD0 (pc_szpos (c_laws_szState a (1048576 : Int) (by omega) (by omega) hok) hn) rfl rfl rfl ?_)
        | refine CallDT (hS (by omega)) rfl rfl rfl ⟨rfl, rfl⟩ ?_
        | refine CallDT (nid := 28688) (c_laws_toState_ro a (by omega)) rfl rfl rfl ⟨rfl, rfl⟩ ?_
        | refine CallDF (hI (by omega)) rfl rfl ⟨rfl, rfl⟩ ?_
        | refine CallDF (c_laws_toState a (by omega)) rfl rfl ⟨rfl, rfl⟩ ?_
        | refine CallD0 (pc_true (c_laws_eqIntS W W hW) rfl) rfl rfl rfl ?_
        | refine CallD0 (pc_true (c_laws_eqState a a hok) rfl) rfl rfl rfl ?_
        | refine CallD0 (c_laws_heldIntS W 1 (by omega) (by omega) (by omega)) rfl rfl rfl ?_)
    | refine ix_map_at hx ?_
    | refine ix_map_at hy ?_
    | refine sl_pre (by omega) (fun _ => rfl) ?_
    | refine sl_suf (by omega) (fun _ => rfl) ?_
    | (refine ix_map2 hx (by omega) (by (try simp only [List.length_take]); omega) (fun y hy => ?_); try simp only [Int.toNat_natCast] at hy)
    | (refine ix_map (by omega) (by (try simp only [List.length_take]); omega) (fun x hx => ?_); try simp only [Int.toNat_natCast] at hx)
    | refine side_and (side_of (by first | (and_intros <;> first | exact Nat.le_of_ble_eq_true rfl | rfl | omega | (simp only [List.length_map, List.length_append, List.length_replicate, List.length_take, List.length_cons, List.length_nil, List.length_drop, List.length_set, markList_length, midL_len, mkL_length]; omega) | exact bytes_ok (Nat.le_of_ble_eq_true rfl) (by omega) (by simp only [List.length_map, List.length_append, List.length_replicate, List.length_take, List.length_cons, List.length_nil, List.length_drop, List.length_set, markList_length, midL_len, mkL_length]; omega) | exact bytes_okN (Nat.le_of_ble_eq_true rfl) (by simp only [List.length_map, List.length_append, List.length_replicate, List.length_take, List.length_cons, List.length_nil, List.length_drop, List.length_set, markList_length, midL_len, mkL_length]; omega)) | fail)) ?_
    | refine nilB_intro (fun h => ?_) ?_
    | refine side_and (side_of (show Go.Ab.structOk _ _ = true by kernel_rfl)) ?_
    | refine side_and (side_of (map_len (fun _ => rfl))) ?_
    | refine side_and (side_of (map_one (fun _ => rfl) _)) ?_
    | refine side_and ?_ ?_
    | refine LoadK_of rfl rfl ?_
    | refine LoadD_cel rfl rfl rfl rfl ?_
    | refine LoadD_of rfl ?_
    | refine StoreD_of rfl rfl rfl ?_
    | refine AppD_of rfl (by and_intros <;> first | rfl | decide) (by simp only [List.length_map, List.length_append, List.length_take, List.length_cons, List.length_nil]; first | (refine ⟨by omega, ?_⟩; refine Nat.le_trans (Nat.mul_le_mul_left _ (show _ ≤ 512 by decide)) ?_; omega) | fail) ?_
    | refine AppN_of rfl rfl (by and_intros <;> rfl) (by simp only [List.length_map, List.length_append, List.length_take, List.length_cons, List.length_nil]; first | (refine ⟨by omega, ?_⟩; refine Nat.le_trans (Nat.mul_le_mul_left _ (show _ ≤ 512 by decide)) ?_; omega) | fail) ?_
    | (show False; omega)
  all_goals
    conv => whnf
    refine OutA_plain rfl rfl ?_
    first | rfl | (exfalso; omega) | (exfalso; simp at * <;> omega)
theorem blkR_len {s : StateT} {key : List UInt8} {time : Int} (hw : s.w ≤ 1048576) : (blkR s key time).length ≤ 4194304 := by
  have h3 : s.w = wL CellT.w s.Cells + wL HeldT.w s.Held + s.Told.length := rfl
  have h4 := wL_len (w := HeldT.w) (xs := s.Held)
  have h5 := List.length_filter_le (blP key time) s.Held
  unfold blkR
  split
  · unfold blocksS
    rw [List.length_map]
    omega
  · decide
theorem c_laws_FnExactBlocksKey (a : StateT) (key : List UInt8) (time : Int) (hok : a.ok) (hk : okS key) : PC Tryz.prog false 11 [.agg a.cells, .str key, .int .i64 time] (.bool true) [] := by
  by_cases hw : a.w ≤ 1048576
  · exact law_BlocksKey a key time (blkR a key time) (okAsk a key time) hok hk ⟨by have := blkR_len (key := key) (time := time) hw; omega, fun _ _ => trivial⟩ (blkR_len hw) (c_spec_BlocksKey a key time hok hk) (c_impl_BlocksKey a key time hok hk)
  · exact law_BlocksKey a key time [] false hok hk ⟨by decide, fun _ _ => trivial⟩ (by decide) (fun h => absurd h hw) (fun h => absurd h hw)
end Go.Proofs.YtbkjmcfkllljoaaGreat
