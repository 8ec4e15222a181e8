/-
  The law of NewDeal; what the reference's NewDeal gives.
  No condition.
-/
import Derived.Test.YtgkghkcahepicaaGreatM5
import Derived.Test.YtgkghkcahepicaaGreatNew4
namespace Go.Proofs.YtgkghkcahepicaaGreat
open Go.Ab
set_option linter.unusedSimpArgs false
set_option maxRecDepth 20000
set_option maxHeartbeats 4000000
set_option linter.unusedVariables false

theorem new_tup {cs : List (List UInt8)} {os : List OrderT} (hl : cs.length ≤ 1048576) : AV.tup [.agg [.sl (cs.map strC), .sl ((List.replicate (mkn cs) ([.int .i64 0, .nil, .nil, .nil] : List AV)).map (List.map deNil)), .sl (os.map OrderT.cells)], .bool true] = AV.tup [.agg (newD cs os).cells, .bool true] := by
  rw [List.map_replicate, mkn_eq hl]
  unfold newD DealT.cells
  rw [List.map_replicate]
  rfl
theorem c_spec_NewDeal (cs : List (List UInt8)) (os : List OrderT) (hc : okL okS cs) (hos : okL OrderT.ok os) (hl : cs.length ≤ 1048576) (how : ∀ s ∈ os, s.w ≤ 1048576) (ho : os.length ≤ 1048576) (hb : ∀ x ∈ os, x.Reads.length ≤ 1048576 ∧ x.Writes.length ≤ 1048576) : PC Tryz.prog true 17 [.sl (cs.map strC), .sl (os.map OrderT.cells)] (.tup [.agg (resD cs os).cells, .bool (okNew cs os)]) [] := by
  refine pc_at Tryz.func17 rfl (by kernel_rfl) 24 [.cell 4 34, .tmp 5] rfl rfl ?_
  repeat' (conv => whnf); first
    | (show Go.Ab.drawA _ _ _ _ _; refine draw_exp (.take 0 (.take 2 (.take 6 (.fork 1 (.fork 3 (.take 4 (.fork 5 (.fork 7 (.fork 8 (.fork 9 (.take 10 (.done)) (.stop)) (.stop)) (.stop)) (.fork 7 (.fork 5 (.fork 8 (.fork 9 (.take 10 (.done)) (.stop)) (.stop)) (.stop)) (.stop)))) (.fork 7 (.fork 3 (.take 4 (.fork 5 (.fork 8 (.fork 9 (.take 10 (.done)) (.stop)) (.stop)) (.stop))) (.stop)) (.stop))) (.fork 3 (.take 4 (.fork 1 (.fork 5 (.fork 7 (.fork 8 (.fork 9 (.take 10 (.done)) (.stop)) (.stop)) (.stop)) (.fork 7 (.fork 5 (.fork 8 (.fork 9 (.take 10 (.done)) (.stop)) (.stop)) (.stop)) (.stop))) (.fork 5 (.fork 1 (.fork 7 (.fork 8 (.fork 9 (.take 10 (.done)) (.stop)) (.stop)) (.stop)) (.stop)) (.stop)))) (.stop)))))) (by kernel_rfl) (by kernel_rfl) (by kernel_rfl) ?_)
    | exact side_of (mk_side hl (Nat.le_of_ble_eq_true rfl))
    | (refine nameB_cases (b := okCuts cs) (fun h => ?_) (fun h => ?_))
    | (refine nameB_cases (b := okOrders os) (fun h => ?_) (fun h => ?_))
    | refine nameB_true ?_
    | refine nameB_false ?_
    | refine nameB_yes (by assumption) ?_
    | refine nameB_no (by assumption) ?_
    | refine nameB_dyes (by assumption) ?_
    | refine nameB_dno (by assumption) ?_
    | (refine nameB_dec (fun h => ?_) (fun h => ?_) <;> try simp only [lensB, midL_len, mkL_length, Int.toNat_natCast, fact_byte] at h)
    | (refine nameB_cases (fun h => ?_) (fun h => ?_) <;> try simp only [bne_iff_ne, ne_eq, bne_eq_false_iff_eq, beq_iff_eq, beq_eq_false_iff_ne, Bool.not_eq_true', Bool.not_eq_false', Bool.or_eq_true, Bool.or_eq_false_iff, lensB, midL_len, mkL_length, Int.toNat_natCast, fact_byte] at h)
    | refine splitB_true ?_
    | refine splitB_false ?_
    | (refine splitB_intro (fun h => ?_) (fun h => ?_) <;> subst h)
    | refine draw_text (by kernel_rfl) (by kernel_rfl) (by kernel_rfl) ?_
    | refine both_intro ?_ ?_
    | refine eitherB_l ?_
    | exact True.intro
    | (show Go.Ab.CallA _ _ _ _ _ _ _; first
        | refine Call0 (c_spec_l15Cuts cs hc) rfl rfl ?_
        | refine Call0 (c_spec_l15Orders os hos how) rfl rfl ?_
        | refine CallT (c_spec_l1OwnSR cs hl) rfl rfl rfl rfl (Nat.le_of_ble_eq_true rfl) ?_
        | refine CallT (c_spec_l15OwnO os ho hb) rfl rfl rfl rfl (Nat.le_of_ble_eq_true rfl) ?_)
    | (show Go.Ab.CallD _ _ _ _ _ _ _; first
        | refine CallD0 (c_spec_l15Cuts cs hc) rfl rfl rfl ?_
        | refine CallD0 (c_spec_l15Orders os hos how) rfl rfl rfl ?_
        | refine CallDT (c_spec_l1OwnSR cs hl) rfl rfl rfl ⟨rfl, rfl⟩ ?_
        | refine CallDT (c_spec_l15OwnO os ho hb) rfl rfl rfl ⟨rfl, rfl⟩ ?_)
    | refine ix_map_at hx ?_
    | refine ix_map_at hy ?_
    | refine sl_pre (by omega) (fun _ => rfl) ?_
    | refine sl_suf (by omega) (fun _ => rfl) ?_
    | (refine ix_map2 hx (by omega) (by (try simp only [List.length_take]); omega) (fun y hy => ?_); try simp only [Int.toNat_natCast] at hy)
    | (refine ix_map (by omega) (by (try simp only [List.length_take]); omega) (fun x hx => ?_); try simp only [Int.toNat_natCast] at hx)
    | refine side_and (side_of (by first | (and_intros <;> first | exact Nat.le_of_ble_eq_true rfl | rfl | omega | (simp only [lensB, lensC, List.length_replicate, midL_len, mkL_length]; omega) | exact bytes_ok (Nat.le_of_ble_eq_true rfl) (by omega) (by simp only [lensB, lensC, List.length_replicate, midL_len, mkL_length]; omega) | exact bytes_okN (Nat.le_of_ble_eq_true rfl) (by simp only [lensB, lensC, List.length_replicate, midL_len, mkL_length]; omega)) | fail)) ?_
    | refine nilB_intro (fun h => ?_) ?_
    | refine side_and (side_of (show Go.Ab.structOk _ _ = true by kernel_rfl)) ?_
    | refine side_and (side_of (map_len (fun _ => rfl))) ?_
    | refine side_and (side_of (map_one (fun _ => rfl) _)) ?_
    | refine side_and ?_ ?_
    | refine LoadK_of rfl rfl ?_
    | refine LoadD_cel rfl rfl rfl rfl ?_
    | refine LoadD_of rfl ?_
    | refine StoreD_of rfl rfl rfl ?_
    | refine AppD_of rfl (by and_intros <;> first | rfl | decide) (by simp only [lensC]; first | (refine ⟨by omega, ?_⟩; refine Nat.le_trans (Nat.mul_le_mul_left _ (show _ ≤ 512 by decide)) ?_; omega) | fail) ?_
    | refine AppN_of rfl rfl (by and_intros <;> rfl) (by simp only [lensC]; first | (refine ⟨by omega, ?_⟩; refine Nat.le_trans (Nat.mul_le_mul_left _ (show _ ≤ 512 by decide)) ?_; omega) | fail) ?_
    | (show False; omega)
  all_goals
    conv => whnf
    first
    | (have e : okNew cs os = false := (by unfold okNew; first | rw [show okCuts cs = false by assumption, Bool.false_and] | rw [show okOrders os = false by assumption, Bool.and_false])
       rw [resD_no e, e]
       refine OutA_nilB 0 1 9 1 0 rfl rfl rfl (by decide) ?_
       refine OutA_nilB 0 2 61 4 1 rfl rfl rfl (by decide) ?_
       refine OutA_nilB 0 3 81 3 2 rfl rfl rfl (by decide) ?_
       refine OutA_frz [1, 2, 3] ?_
       conv => whnf
       exact OutA_plain rfl rfl rfl)
    | (have e : okNew cs os = true := (by unfold okNew; rw [show okCuts cs = true by assumption, show okOrders os = true by assumption]; rfl)
       rw [resD_yes e, e]
       refine OutA_prom [(12368, StateT.shp)] ⟨⟨_, _, _, rfl, prom_rep rfl⟩, trivial⟩ ?_
       conv => whnf
       refine OutA_deNil 12368 rfl rfl ?_
       conv => whnf
       refine OutA_frz [12368] ?_
       conv => whnf
       exact OutA_plain rfl rfl (new_tup hl))
theorem wL_zero (n : Nat) : wL StateT.w (List.replicate n zeroS) = n := by
  unfold wL
  rw [List.length_replicate, List.map_replicate]
  have : (List.replicate n (StateT.w zeroS)).sum = 0 := by
    show (List.replicate n 0).sum = 0
    simp
  rw [this]
  rfl
theorem resD_w (cs : List (List UInt8)) (os : List OrderT) (hw : wL List.length cs + wL OrderT.w os ≤ 1048576) : (resD cs os).w ≤ 1048600 := by
  cases h : okNew cs os with
  | true =>
    rw [resD_yes h]
    have h1 := okNew_len h
    have h2 : (newD cs os).w = wL List.length cs + wL StateT.w (List.replicate (cs.length + 1) zeroS) + wL OrderT.w os := rfl
    rw [wL_zero] at h2
    omega
  | false =>
    rw [resD_no h]
    decide
theorem resD_ok {cs : List (List UInt8)} {os : List OrderT} (hc : okL okS cs) (ho : okL OrderT.ok os) : (resD cs os).ok := by
  cases h : okNew cs os with
  | true =>
    rw [resD_yes h]
    have h1 := okNew_len h
    exact newD_ok hc ho (by omega)
  | false =>
    rw [resD_no h]
    exact ⟨⟨Nat.zero_le _, fun _ h => by cases h⟩, ⟨Nat.zero_le _, fun _ h => by cases h⟩, ⟨Nat.zero_le _, fun _ h => by cases h⟩⟩
theorem law_NewDeal (W : DealT) (cs : List (List UInt8)) (os : List OrderT) (b : Bool) (hc : okL okS cs) (ho : okL OrderT.ok os) (hW : W.ok) (hww : wL List.length cs + wL OrderT.w os ≤ 1048576 → W.w ≤ 1048600)
    (hS : wL List.length cs + wL OrderT.w os ≤ 1048576 → PC Tryz.prog true 17 [.sl (cs.map strC), .sl (os.map OrderT.cells)] (.tup [.agg W.cells, .bool b]) [])
    (hI : wL List.length cs + wL OrderT.w os ≤ 1048576 → PC Tryz.prog false 20 [.sl (cs.map strC), .sl (os.map OrderT.cells)] (.tup [.agg [.own 0, .own 1, .own 2], .bool b]) (dealO W)) :
    PC Tryz.prog false 4 [.sl (cs.map strC), .sl (os.map OrderT.cells)] (.bool true) [] := by
  have hm2 := DealT.cntS_w W 1
  have hm4 : os.length ≤ wL OrderT.w os := wL_len
  have hm5 : cs.length ≤ wL List.length cs := wL_len
  have hm3 := cntL_w100 (cnt := OrderT.cnt) (w := OrderT.w) (fun y => OrderT.cnt_w y) os
  have hm6 := cntL_w100 (cnt := cnt1) (w := List.length) (fun y => (by show 1 ≤ _; omega)) cs
  refine pc_at Tryz.func4 rfl (by kernel_rfl) 119 [.tmp 4] rfl rfl ?_
  repeat' (conv => whnf); first
    | refine nameB_self (b := b) ?_
    | refine nameB_no (b := !(b == b)) (by simp) ?_
    | refine nameB_dno (by omega) ?_
    | refine nameB_true ?_
    | refine nameB_false ?_
    | refine nameB_yes (by assumption) ?_
    | refine nameB_no (by assumption) ?_
    | refine nameB_dyes (by assumption) ?_
    | refine nameB_dno (by assumption) ?_
    | (refine nameB_dec (fun h => ?_) (fun h => ?_) <;> try simp only [lensB, midL_len, mkL_length, Int.toNat_natCast, fact_byte] at h)
    | (refine nameB_cases (fun h => ?_) (fun h => ?_) <;> try simp only [bne_iff_ne, ne_eq, bne_eq_false_iff_eq, beq_iff_eq, beq_eq_false_iff_ne, Bool.not_eq_true', Bool.not_eq_false', Bool.or_eq_true, Bool.or_eq_false_iff, lensB, midL_len, mkL_length, Int.toNat_natCast, fact_byte] at h)
    | refine splitB_true ?_
    | refine splitB_false ?_
    | (refine splitB_intro (fun h => ?_) (fun h => ?_) <;> subst h)
    | refine draw_text (by kernel_rfl) (by kernel_rfl) (by kernel_rfl) ?_
    | refine both_intro ?_ ?_
    | refine eitherB_l ?_
    | exact True.intro
    | (show Go.Ab.CallA _ _ _ _ _ _ _; first
        | (by_cases hn : (1048576 : Int) - ((wL List.length cs : Nat) : Int) < 0 <;> first | refine Call0 (pc_szneg (c_laws_szStringS cs (1048576 : Int) (by omega) (by omega) hc) hn) rfl rfl ?_ | refine Call0 (pc_szpos (c_laws_szStringS cs (1048576 : Int) (by omega) (by omega) hc) hn) rfl rfl ?_)
        | (by_cases hn : (1048576 - ((wL List.length cs : Nat) : Int)) - ((wL OrderT.w os : Nat) : Int) < 0 <;> first | refine Call0 (pc_szneg (c_laws_szOrderS os (1048576 - ((wL List.length cs : Nat) : Int)) (by omega) (by omega) ho) hn) rfl rfl ?_ | refine Call0 (pc_szpos (c_laws_szOrderS os (1048576 - ((wL List.length cs : Nat) : Int)) (by omega) (by omega) ho) hn) rfl rfl ?_)
        | refine CallT (hS (by omega)) rfl rfl rfl rfl (Nat.le_of_ble_eq_true rfl) ?_
        | refine CallT (nid := 32784) (c_laws_toStringS_ro cs (by omega)) rfl rfl rfl rfl (Nat.le_of_ble_eq_true rfl) ?_
        | refine CallT (nid := 32816) (c_laws_toOrderS_ro os (by omega)) rfl rfl rfl rfl (Nat.le_of_ble_eq_true rfl) ?_
        | refine CallF (hI (by omega)) rfl rfl rfl (Nat.le_of_ble_eq_true rfl) ?_
        | refine CallF (c_laws_toStringS cs (by omega)) rfl rfl rfl (Nat.le_of_ble_eq_true rfl) ?_
        | refine CallF (c_laws_toOrderS os (by omega)) rfl rfl rfl (Nat.le_of_ble_eq_true rfl) ?_
        | refine Call0 (pc_true (c_laws_eqDeal W W hW) rfl) rfl rfl ?_
        | refine Call0 (pc_true (c_laws_eqStringS cs cs hc) rfl) rfl rfl ?_
        | refine Call0 (pc_true (c_laws_eqOrderS os os ho) rfl) rfl rfl ?_
        | refine CallMs (m_laws_markStringS cs 1 (by omega) (by omega) (by omega)) [] trivial rfl rfl ?_
        | refine CallM1 (m_laws_markStringS cs 1 (by omega) (by omega) (by omega)) [] trivial rfl rfl ?_
        | refine CallMs (m_laws_markOrderS os (1 + (cntL cnt1 cs : Int)) (by omega) (by omega) (by omega)) [] trivial rfl rfl ?_
        | refine CallM1 (m_laws_markOrderS os (1 + (cntL cnt1 cs : Int)) (by omega) (by omega) (by omega)) [] trivial rfl rfl ?_
        | refine CallMs (m_laws_markDeal W 1 (by omega) (by omega)) [] trivial rfl rfl ?_
        | refine CallM1 (m_laws_markDeal W 1 (by omega) (by omega)) [] trivial rfl rfl ?_
        | refine Call0 (c_laws_heldDeal W 1 (by omega) (by omega)) rfl rfl ?_)
    | refine ix_map_at hx ?_
    | refine ix_map_at hy ?_
    | refine sl_pre (by omega) (fun _ => rfl) ?_
    | refine sl_suf (by omega) (fun _ => rfl) ?_
    | (refine ix_map2 hx (by omega) (by (try simp only [List.length_take]); omega) (fun y hy => ?_); try simp only [Int.toNat_natCast] at hy)
    | (refine ix_map (by omega) (by (try simp only [List.length_take]); omega) (fun x hx => ?_); try simp only [Int.toNat_natCast] at hx)
    | refine side_and (side_of (by first | (and_intros <;> first | exact Nat.le_of_ble_eq_true rfl | rfl | omega | (simp only [lensB, lensC, List.length_replicate, midL_len, mkL_length]; omega) | exact bytes_ok (Nat.le_of_ble_eq_true rfl) (by omega) (by simp only [lensB, lensC, List.length_replicate, midL_len, mkL_length]; omega) | exact bytes_okN (Nat.le_of_ble_eq_true rfl) (by simp only [lensB, lensC, List.length_replicate, midL_len, mkL_length]; omega)) | fail)) ?_
    | refine nilB_intro (fun h => ?_) ?_
    | refine side_and (side_of (show Go.Ab.structOk _ _ = true by kernel_rfl)) ?_
    | refine side_and (side_of (map_len (fun _ => rfl))) ?_
    | refine side_and (side_of (map_one (fun _ => rfl) _)) ?_
    | refine side_and ?_ ?_
    | refine LoadK_of rfl rfl ?_
    | refine LoadD_cel rfl rfl rfl rfl ?_
    | refine LoadD_of rfl ?_
    | refine StoreD_of rfl rfl rfl ?_
    | refine AppD_of rfl (by and_intros <;> first | rfl | decide) (by simp only [lensC]; first | (refine ⟨by omega, ?_⟩; refine Nat.le_trans (Nat.mul_le_mul_left _ (show _ ≤ 512 by decide)) ?_; omega) | fail) ?_
    | refine AppN_of rfl rfl (by and_intros <;> rfl) (by simp only [lensC]; first | (refine ⟨by omega, ?_⟩; refine Nat.le_trans (Nat.mul_le_mul_left _ (show _ ≤ 512 by decide)) ?_; omega) | fail) ?_
    | (show False; omega)
  all_goals
    conv => whnf
    refine OutA_plain rfl rfl ?_
    first | rfl | (exfalso; omega) | (exfalso; simp at * <;> omega)
theorem ord_lens {os : List OrderT} (hw : wL OrderT.w os ≤ 1048576) : ∀ x ∈ os, x.w ≤ 1048576 ∧ x.Reads.length ≤ 1048576 ∧ x.Writes.length ≤ 1048576 := by
  intro x hx
  have h1 := (wL_mem (w := OrderT.w) hx).2
  have h2 : x.w = wL List.length x.Reads + wL WriteT.w x.Writes := rfl
  have h3 := wL_len (w := List.length) (xs := x.Reads)
  have h4 := wL_len (w := WriteT.w) (xs := x.Writes)
  exact ⟨by omega, by omega, by omega⟩
theorem c_laws_FnExactNewDeal (cs : List (List UInt8)) (os : List OrderT) (hc : okL okS cs) (ho : okL OrderT.ok os) : PC Tryz.prog false 4 [.sl (cs.map strC), .sl (os.map OrderT.cells)] (.bool true) [] := by
  have hm4 : os.length ≤ wL OrderT.w os := wL_len
  have hm5 : cs.length ≤ wL List.length cs := wL_len
  refine law_NewDeal (resD cs os) cs os (okNew cs os) hc ho (resD_ok hc ho) (resD_w cs os) (fun hw => ?_) (fun hw => ?_)
  · have hx := ord_lens (os := os) (by omega)
    exact c_spec_NewDeal cs os hc ho (by omega) (fun s hs => (hx s hs).1) (by omega) (fun s hs => (hx s hs).2)
  · have hx := ord_lens (os := os) (by omega)
    exact c_impl_NewDeal cs os hc ho (by omega) (fun s hs => (hx s hs).1) (by omega) (fun s hs => (hx s hs).2)
end Go.Proofs.YtgkghkcahepicaaGreat
