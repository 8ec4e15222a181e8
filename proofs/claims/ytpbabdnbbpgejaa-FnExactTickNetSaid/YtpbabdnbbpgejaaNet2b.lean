/-
  TickNet's law.
  No condition.
-/
import Derived.Test.YtpbabdnbbpgejaaNet2a
namespace Go.Proofs.Ytpbabdnbbpgejaa
open Go.Ab
set_option linter.unusedSimpArgs false
set_option maxRecDepth 20000
set_option maxHeartbeats 4000000
set_option linter.unusedVariables false

theorem law_TickNet (a W : NetT) (b : Bool) (hok : a.ok) (hW : W.ok) (hww : W.w ≤ 1048576)
    (hS : a.w ≤ 1048576 → PC Try.prog false 38 [.agg a.cells] (.tup [.agg [.int .i64 W.Now, .own 0, .int .i64 W.Far, .own 1], .bool b]) (netOs W.Homes W.Under))
    (hI : a.w ≤ 1048576 → PC Try.prog false 40 [.agg a.cells] (.tup [.agg [.int .i64 W.Now, .own 0, .int .i64 W.Far, .own 1], .bool b]) (netOs W.Homes W.Under)) :
    PC Try.prog false 7 [.agg a.cells] (.bool true) [] := by
  have hw2 : a.w ≤ 1048576 → a.Homes.length ≤ 1048576 ∧ a.Under.length ≤ 1048576 := net_len
  have hw3 : a.Homes.length + a.Under.length ≤ a.w := by
    have h : a.w = a.Homes.length + wL LetterT.w a.Under := rfl
    have := wL_len (w := LetterT.w) (xs := a.Under)
    omega
  have hm1 := NetT.cntS_w a 1
  have hm2 := NetT.cntS_w W 1
  refine pc_at Try.func7 rfl (by kernel_rfl) 96 [.tmp 2] rfl rfl ?_
  repeat' (conv => whnf); first
    | refine nameB_self (b := b) ?_
    | refine nameB_no (b := !(b == b)) (by simp) ?_
    | refine nameB_dno (by omega) ?_
    | refine nameB_true ?_
    | refine nameB_false ?_
    | refine nameB_yes (by assumption) ?_
    | refine nameB_no (by assumption) ?_
    | refine nameB_dyes (by assumption) ?_
    | refine nameB_dno (by assumption) ?_
    | (refine nameB_dec (fun h => ?_) (fun h => ?_) <;> try simp only [List.length_map, List.length_take, List.length_append, List.length_drop, List.length_set, markList_length, midL_len, mkL_length, Int.toNat_natCast, fact_byte] at h)
    | (refine nameB_cases (fun h => ?_) (fun h => ?_) <;> try simp only [bne_iff_ne, ne_eq, bne_eq_false_iff_eq, beq_iff_eq, beq_eq_false_iff_ne, Bool.not_eq_true', Bool.not_eq_false', Bool.or_eq_true, Bool.or_eq_false_iff, List.length_map, List.length_take, List.length_append, List.length_drop, List.length_set, markList_length, midL_len, mkL_length, Int.toNat_natCast, fact_byte] at h)
    | refine splitB_true ?_
    | refine splitB_false ?_
    | (refine splitB_intro (fun h => ?_) (fun h => ?_) <;> subst h)
    | refine ⟨⟨by kernel_rfl, by kernel_rfl, by kernel_rfl⟩, ?_⟩
    | (show Go.Ab.CallA _ _ _ _ _ _ _; first
        | (by_cases hn : (1048576 : Int) - ((NetT.w a : Nat) : Int) < 0 <;> first | refine Call0 (pc_szneg (c_laws_szNet a (1048576 : Int) (by omega) (by omega) hok) hn) rfl rfl ?_ | refine Call0 (pc_szpos (c_laws_szNet a (1048576 : Int) (by omega) (by omega) hok) hn) rfl rfl ?_)
        | refine CallF (hS (by omega)) rfl rfl rfl (Nat.le_of_ble_eq_true rfl) ?_
        | refine CallF (hI (by omega)) rfl rfl rfl (Nat.le_of_ble_eq_true rfl) ?_
        | refine CallF (c_laws_toNet a (by omega)) rfl rfl rfl (Nat.le_of_ble_eq_true rfl) ?_
        | refine Call0 (pc_true (c_laws_eqNet W W hW) rfl) rfl rfl ?_
        | refine Call0 (pc_true (c_laws_eqNet a a hok) rfl) rfl rfl ?_
        | refine CallMs (m_laws_markNet a 1 (by omega) (by omega)) [] trivial rfl rfl ?_
        | refine CallM1 (m_laws_markNet a 1 (by omega) (by omega)) [] trivial rfl rfl ?_
        | refine CallMs (m_laws_markNet W 1 (by omega) (by omega)) [(28688, [.leaf]), (28689, LetterT.shp)] ⟨⟨_, _, _, rfl, by first | exact prom_map (fun _ => rfl) | exact prom_nil⟩, ⟨⟨_, _, _, rfl, by first | exact prom_map (fun _ => rfl) | exact prom_nil⟩, trivial⟩⟩ rfl rfl ?_
        | refine CallM1 (m_laws_markNet W 1 (by omega) (by omega)) [(28688, [.leaf]), (28689, LetterT.shp)] ⟨⟨_, _, _, rfl, by first | exact prom_map (fun _ => rfl) | exact prom_nil⟩, ⟨⟨_, _, _, rfl, by first | exact prom_map (fun _ => rfl) | exact prom_nil⟩, trivial⟩⟩ rfl rfl ?_
        | refine Call0 (c_laws_heldNet W 1 (by omega) (by omega)) rfl rfl ?_)
    | (show Go.Ab.CallD _ _ _ _ _ _ _; first
        | (by_cases hn : (1048576 : Int) - ((NetT.w a : Nat) : Int) < 0 <;> first | refine CallD0 (pc_szneg (c_laws_szNet a (1048576 : Int) (by omega) (by omega) hok) hn) rfl rfl rfl ?_ | refine CallD0 (pc_szpos (c_laws_szNet a (1048576 : Int) (by omega) (by omega) hok) hn) rfl rfl rfl ?_)
        | refine CallDF (hS (by omega)) rfl rfl ⟨rfl, rfl⟩ ?_
        | refine CallDF (hI (by omega)) rfl rfl ⟨rfl, rfl⟩ ?_
        | refine CallDF (c_laws_toNet a (by omega)) rfl rfl ⟨rfl, rfl⟩ ?_
        | refine CallD0 (pc_true (c_laws_eqNet W W hW) rfl) rfl rfl rfl ?_
        | refine CallD0 (pc_true (c_laws_eqNet a a hok) rfl) rfl rfl rfl ?_
        | refine CallD0 (c_laws_heldNet W 1 (by omega) (by omega)) rfl rfl rfl ?_)
    | refine ix_map_at hx ?_
    | refine ix_map_at hy ?_
    | refine sl_pre (by omega) (fun _ => rfl) ?_
    | refine sl_suf (by omega) (fun _ => rfl) ?_
    | (refine ix_map2 hx (by omega) (by (try simp only [List.length_take]); omega) (fun y hy => ?_); try simp only [Int.toNat_natCast] at hy)
    | (refine ix_map (by omega) (by (try simp only [List.length_take]); omega) (fun x hx => ?_); try simp only [Int.toNat_natCast] at hx)
    | refine side_and (side_of (by first | (and_intros <;> first | exact Nat.le_of_ble_eq_true rfl | rfl | omega | (simp only [List.length_map, List.length_append, List.length_replicate, List.length_take, List.length_cons, List.length_nil, List.length_drop, List.length_set, markList_length, midL_len, mkL_length]; omega) | exact bytes_ok (Nat.le_of_ble_eq_true rfl) (by omega) (by simp only [List.length_map, List.length_append, List.length_replicate, List.length_take, List.length_cons, List.length_nil, List.length_drop, List.length_set, markList_length, midL_len, mkL_length]; omega) | exact bytes_okN (Nat.le_of_ble_eq_true rfl) (by simp only [List.length_map, List.length_append, List.length_replicate, List.length_take, List.length_cons, List.length_nil, List.length_drop, List.length_set, markList_length, midL_len, mkL_length]; omega)) | fail)) ?_
    | refine nilB_intro (fun h => ?_) ?_
    | refine side_and (side_of (show Go.Ab.structOk _ _ = true by kernel_rfl)) ?_
    | refine side_and (side_of (map_len (fun _ => rfl))) ?_
    | refine side_and (side_of (map_one (fun _ => rfl) _)) ?_
    | refine side_and ?_ ?_
    | refine LoadK_of rfl rfl ?_
    | refine LoadD_cel rfl rfl rfl rfl ?_
    | refine LoadD_of rfl ?_
    | refine StoreD_of rfl rfl rfl ?_
    | refine AppD_of rfl (by and_intros <;> first | rfl | decide) (by simp only [List.length_map, List.length_append, List.length_take, List.length_cons, List.length_nil]; first | (refine ⟨by omega, ?_⟩; refine Nat.le_trans (Nat.mul_le_mul_left _ (show _ ≤ 512 by decide)) ?_; omega) | fail) ?_
    | refine AppN_of rfl rfl (by and_intros <;> rfl) (by simp only [List.length_map, List.length_append, List.length_take, List.length_cons, List.length_nil]; first | (refine ⟨by omega, ?_⟩; refine Nat.le_trans (Nat.mul_le_mul_left _ (show _ ≤ 512 by decide)) ?_; omega) | fail) ?_
    | (show False; omega)
  all_goals
    conv => whnf
    refine OutA_plain rfl rfl ?_
    first | rfl | (exfalso; omega) | (exfalso; simp at * <;> omega)
theorem tickR_ok {a : NetT} (hok : a.ok) : (tickR a).ok := by
  cases h : okTick a with
  | true => rw [tickR_yes h]; exact hok
  | false => rw [tickR_no h]; exact zeroN_ok
theorem tickR_len {a : NetT} (hw : a.w ≤ 1048576) : (tickR a).w ≤ 1048576 := by
  cases h : okTick a with
  | true => rw [tickR_yes h]; exact hw
  | false => rw [tickR_no h]; exact Nat.zero_le _
theorem c_laws_FnExactTickNet (a : NetT) (hok : a.ok) : PC Try.prog false 7 [.agg a.cells] (.bool true) [] := by
  by_cases hw : a.w ≤ 1048576
  · exact law_TickNet a (tickR a) (okTick a) hok (tickR_ok hok) (tickR_len hw) (c_spec_TickNet a hok) (c_impl_TickNet a hok)
  · exact law_TickNet a ⟨0, [], 0, []⟩ false hok zeroN_ok (Nat.zero_le _) (fun h => absurd h hw) (fun h => absurd h hw)
end Go.Proofs.Ytpbabdnbbpgejaa
