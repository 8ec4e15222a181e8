/-
  PartsOf's law.
  No condition.
-/
import Derived.Test.YtpbabdnbbpgejaaPartsM
namespace Go.Proofs.Ytpbabdnbbpgejaa
open Go.Ab
set_option linter.unusedSimpArgs false
set_option maxRecDepth 20000
set_option maxHeartbeats 4000000
set_option linter.unusedVariables false

theorem law_PartsOf (a : List (List UInt8)) (o : OrderT) (W : List Int) (b : Bool) (hok : okL okS a) (ho : o.ok) (hW : okL okT W) (hww : W.length ≤ 4194304)
    (hS : o.w ≤ 1048576 → PC Try.prog true 13 [.sl (a.map strC), .agg o.cells] (.tup [.sl (W.map intC), .bool b]) [])
    (hI : o.w ≤ 1048576 → PC Try.prog false 16 [.sl (a.map strC), .agg o.cells] (.tup [.own 0, .bool b]) [⟨false, 3, 1, W.map intC⟩]) :
    PC Try.prog false 3 [.sl (a.map strC), .agg o.cells] (.bool true) [] := by
  have hw2 : a.length ≤ wL List.length a := wL_len
  have hm1 := cntL_cnt1 (xs := a)
  have hm2 := cntL_cnt1 (xs := W)
  have hm3 := OrderT.cntS_w o (1 + (cntL cnt1 a : Int))
  have hm4 : 0 ≤ 1 + (cntL cnt1 a : Int) := by omega
  refine pc_at Try.func3 rfl (by kernel_rfl) 119 [.tmp 4] rfl rfl ?_
  repeat' (conv => whnf); first
    | refine nameB_self (b := b) ?_
    | refine nameB_no (b := !(b == b)) (by simp) ?_
    | refine nameB_dno (by omega) ?_
    | refine nameB_true ?_
    | refine nameB_false ?_
    | refine nameB_yes (by assumption) ?_
    | refine nameB_no (by assumption) ?_
    | refine nameB_dyes (by assumption) ?_
    | refine nameB_dno (by assumption) ?_
    | (refine nameB_dec (fun h => ?_) (fun h => ?_) <;> try simp only [List.length_map, List.length_take, List.length_append, List.length_drop, List.length_set, markList_length, midL_len, mkL_length, Int.toNat_natCast, fact_byte] at h)
    | (refine nameB_cases (fun h => ?_) (fun h => ?_) <;> try simp only [bne_iff_ne, ne_eq, bne_eq_false_iff_eq, beq_iff_eq, beq_eq_false_iff_ne, Bool.not_eq_true', Bool.not_eq_false', Bool.or_eq_true, Bool.or_eq_false_iff, List.length_map, List.length_take, List.length_append, List.length_drop, List.length_set, markList_length, midL_len, mkL_length, Int.toNat_natCast, fact_byte] at h)
    | refine splitB_true ?_
    | refine splitB_false ?_
    | (refine splitB_intro (fun h => ?_) (fun h => ?_) <;> subst h)
    | refine ⟨⟨by kernel_rfl, by kernel_rfl, by kernel_rfl⟩, ?_⟩
    | (show Go.Ab.CallA _ _ _ _ _ _ _; first
        | (by_cases hn : (1048576 : Int) - ((wL List.length a : Nat) : Int) < 0 <;> first | refine Call0 (pc_szneg (c_laws_szStringS a (1048576 : Int) (by omega) (by omega) hok) hn) rfl rfl ?_ | refine Call0 (pc_szpos (c_laws_szStringS a (1048576 : Int) (by omega) (by omega) hok) hn) rfl rfl ?_)
        | (by_cases hn : (1048576 - ((wL List.length a : Nat) : Int)) - ((OrderT.w o : Nat) : Int) < 0 <;> first | refine Call0 (pc_szneg (c_laws_szOrder o (1048576 - ((wL List.length a : Nat) : Int)) (by omega) (by omega) ho) hn) rfl rfl ?_ | refine Call0 (pc_szpos (c_laws_szOrder o (1048576 - ((wL List.length a : Nat) : Int)) (by omega) (by omega) ho) hn) rfl rfl ?_)
        | refine CallT (hS (by omega)) rfl rfl rfl rfl (Nat.le_of_ble_eq_true rfl) ?_
        | refine CallT (nid := 32784) (c_laws_toStringS_ro a (by omega)) rfl rfl rfl rfl (Nat.le_of_ble_eq_true rfl) ?_
        | refine CallT (nid := 32816) (c_laws_toOrder_ro o (by omega)) rfl rfl rfl rfl (Nat.le_of_ble_eq_true rfl) ?_
        | refine CallF (hI (by omega)) rfl rfl rfl (Nat.le_of_ble_eq_true rfl) ?_
        | refine CallF (c_laws_toStringS a (by omega)) rfl rfl rfl (Nat.le_of_ble_eq_true rfl) ?_
        | refine CallF (c_laws_toOrder o (by omega)) rfl rfl rfl (Nat.le_of_ble_eq_true rfl) ?_
        | refine Call0 (pc_true (c_laws_eqIntS W W hW) rfl) rfl rfl ?_
        | refine Call0 (pc_true (c_laws_eqStringS a a hok) rfl) rfl rfl ?_
        | refine Call0 (pc_true (c_laws_eqOrder o o ho) rfl) rfl rfl ?_
        | refine CallMs (m_laws_markStringS a 1 (by omega) (by omega) (by omega)) [] trivial rfl rfl ?_
        | refine CallM1 (m_laws_markStringS a 1 (by omega) (by omega) (by omega)) [] trivial rfl rfl ?_
        | refine CallMs (m_laws_markOrder o (1 + (cntL cnt1 a : Int)) (by omega) (by omega)) [] trivial rfl rfl ?_
        | refine CallM1 (m_laws_markOrder o (1 + (cntL cnt1 a : Int)) (by omega) (by omega)) [] trivial rfl rfl ?_
        | refine CallMs (m_laws_markIntS W 1 (by omega) (by omega) (by omega)) [(45088, [.leaf])] ⟨⟨_, _, _, rfl, by first | exact prom_map (fun _ => rfl) | exact prom_nil⟩, trivial⟩ rfl rfl ?_
        | refine CallM1 (m_laws_markIntS W 1 (by omega) (by omega) (by omega)) [(45088, [.leaf])] ⟨⟨_, _, _, rfl, by first | exact prom_map (fun _ => rfl) | exact prom_nil⟩, trivial⟩ rfl rfl ?_
        | refine Call0 (c_laws_heldIntS W 1 (by omega) (by omega) (by omega)) rfl rfl ?_)
    | (show Go.Ab.CallD _ _ _ _ _ _ _; first
        | (by_cases hn : (1048576 : Int) - ((wL List.length a : Nat) : Int) < 0 <;> first | refine CallD0 (pc_szneg (c_laws_szStringS a (1048576 : Int) (by omega) (by omega) hok) hn) rfl rfl rfl ?_ | refine CallD0 (pc_szpos (c_laws_szStringS a (1048576 : Int) (by omega) (by omega) hok) hn) rfl rfl rfl ?_)
        | (by_cases hn : (1048576 - ((wL List.length a : Nat) : Int)) - ((OrderT.w o : Nat) : Int) < 0 <;> first | refine CallD0 (pc_szneg (c_laws_szOrder o (1048576 - ((wL List.length a : Nat) : Int)) (by omega) (by omega) ho) hn) rfl rfl rfl ?_ | refine CallD0 (pc_szpos (c_laws_szOrder o (1048576 - ((wL List.length a : Nat) : Int)) (by omega) (by omega) ho) hn) rfl rfl rfl ?_)
        | refine CallDT (hS (by omega)) rfl rfl rfl ⟨rfl, rfl⟩ ?_
        | refine CallDT (nid := 32784) (c_laws_toStringS_ro a (by omega)) rfl rfl rfl ⟨rfl, rfl⟩ ?_
        | refine CallDT (nid := 32816) (c_laws_toOrder_ro o (by omega)) rfl rfl rfl ⟨rfl, rfl⟩ ?_
        | refine CallDF (hI (by omega)) rfl rfl ⟨rfl, rfl⟩ ?_
        | refine CallDF (c_laws_toStringS a (by omega)) rfl rfl ⟨rfl, rfl⟩ ?_
        | refine CallDF (c_laws_toOrder o (by omega)) rfl rfl ⟨rfl, rfl⟩ ?_
        | refine CallD0 (pc_true (c_laws_eqIntS W W hW) rfl) rfl rfl rfl ?_
        | refine CallD0 (pc_true (c_laws_eqStringS a a hok) rfl) rfl rfl rfl ?_
        | refine CallD0 (pc_true (c_laws_eqOrder o o ho) rfl) rfl rfl rfl ?_
        | refine CallD0 (c_laws_heldIntS W 1 (by omega) (by omega) (by omega)) rfl rfl rfl ?_)
    | refine ix_map_at hx ?_
    | refine ix_map_at hy ?_
    | refine sl_pre (by omega) (fun _ => rfl) ?_
    | refine sl_suf (by omega) (fun _ => rfl) ?_
    | (refine ix_map2 hx (by omega) (by (try simp only [List.length_take]); omega) (fun y hy => ?_); try simp only [Int.toNat_natCast] at hy)
    | (refine ix_map (by omega) (by (try simp only [List.length_take]); omega) (fun x hx => ?_); try simp only [Int.toNat_natCast] at hx)
    | refine side_and (side_of (by first | (and_intros <;> first | exact Nat.le_of_ble_eq_true rfl | rfl | omega | (simp only [List.length_map, List.length_append, List.length_replicate, List.length_take, List.length_cons, List.length_nil, List.length_drop, List.length_set, markList_length, midL_len, mkL_length]; omega) | exact bytes_ok (Nat.le_of_ble_eq_true rfl) (by omega) (by simp only [List.length_map, List.length_append, List.length_replicate, List.length_take, List.length_cons, List.length_nil, List.length_drop, List.length_set, markList_length, midL_len, mkL_length]; omega) | exact bytes_okN (Nat.le_of_ble_eq_true rfl) (by simp only [List.length_map, List.length_append, List.length_replicate, List.length_take, List.length_cons, List.length_nil, List.length_drop, List.length_set, markList_length, midL_len, mkL_length]; omega)) | fail)) ?_
    | refine nilB_intro (fun h => ?_) ?_
    | refine side_and (side_of (show Go.Ab.structOk _ _ = true by kernel_rfl)) ?_
    | refine side_and (side_of (map_len (fun _ => rfl))) ?_
    | refine side_and (side_of (map_one (fun _ => rfl) _)) ?_
    | refine side_and ?_ ?_
    | refine LoadK_of rfl rfl ?_
    | refine LoadD_cel rfl rfl rfl rfl ?_
    | refine LoadD_of rfl ?_
    | refine StoreD_of rfl rfl rfl ?_
    | refine AppD_of rfl (by and_intros <;> first | rfl | decide) (by simp only [List.length_map, List.length_append, List.length_take, List.length_cons, List.length_nil]; first | (refine ⟨by omega, ?_⟩; refine Nat.le_trans (Nat.mul_le_mul_left _ (show _ ≤ 512 by decide)) ?_; omega) | fail) ?_
    | refine AppN_of rfl rfl (by and_intros <;> rfl) (by simp only [List.length_map, List.length_append, List.length_take, List.length_cons, List.length_nil]; first | (refine ⟨by omega, ?_⟩; refine Nat.le_trans (Nat.mul_le_mul_left _ (show _ ≤ 512 by decide)) ?_; omega) | fail) ?_
    | (show False; omega)
  all_goals
    conv => whnf
    refine OutA_plain rfl rfl ?_
    first | rfl | (exfalso; omega) | (exfalso; simp at * <;> omega)
theorem putI_fold_len (ys : List Int) : (ys.foldl putI []).length ≤ ys.length := by
  have := foldI_len ys []
  simpa using this
theorem partsR_len {a : List (List UInt8)} {o : OrderT} (h : o.Reads.length + o.Writes.length ≤ 1048576) : (partsR a o).length ≤ 4194304 := by
  cases e : okP a o with
  | false => rw [partsR_no e]; decide
  | true =>
    rw [partsR_yes e]
    have h1 := putI_fold_len ((kO o.Reads o.Writes).map (pS a))
    have h2 := kO_len (reads := o.Reads) (ws := o.Writes) (by omega) (by omega)
    rw [List.length_map] at h1
    unfold partsS
    omega
theorem c_laws_FnExactPartsOf (a : List (List UInt8)) (o : OrderT) (hok : okL okS a) (ho : o.ok) : PC Try.prog false 3 [.sl (a.map strC), .agg o.cells] (.bool true) [] := by
  by_cases hw : o.w ≤ 1048576
  · have hr := partsR_len (a := a) (ord_sum hw)
    exact law_PartsOf a o (partsR a o) (okP a o) hok ho ⟨by omega, fun _ _ => trivial⟩ hr (c_spec_PartsOf a o hok ho) (c_impl_PartsOf a o hok ho)
  · exact law_PartsOf a o [] false hok ho ⟨by decide, fun _ _ => trivial⟩ (by decide) (fun h => absurd h hw) (fun h => absurd h hw)
end Go.Proofs.Ytpbabdnbbpgejaa
