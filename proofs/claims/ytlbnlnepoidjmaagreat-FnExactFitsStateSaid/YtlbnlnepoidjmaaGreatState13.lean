/-
  The law FnExactFitsState's function returns true.
  No condition.
-/
import Derived.Test.YtlbnlnepoidjmaaGreatState12c
namespace Go.Proofs.YtlbnlnepoidjmaaGreat
open Go.Ab
set_option linter.unusedSimpArgs false
set_option maxRecDepth 20000
set_option maxHeartbeats 4000000
set_option linter.unusedVariables false

theorem c_laws_FnExactFitsState (a : StateT) (reads : List (List UInt8)) (ws : List WriteT) (hok : a.ok) (h1 : okL okS reads) (h2 : okL WriteT.ok ws) : PC Tryz.prog false 3 [.agg a.cells, .sl (reads.map strC), .sl (ws.map WriteT.cells)] (.bool true) [] := by
  have q1 := wL_len (w := List.length) (xs := reads)
  have q2 := wL_len (w := WriteT.w) (xs := ws)
  refine pc_at Tryz.func3 rfl (by kernel_rfl) 76 [.tmp 6] rfl rfl ?_
  repeat' (conv => whnf); first
    | refine nameB_self (b := fitsS a reads ws) ?_
    | refine nameB_self (b := okFit a reads ws) ?_
    | refine nameB_self (b := okFit a reads ws && fitsS a reads ws) ?_
    | refine nameB_no (b := !((okFit a reads ws && fitsS a reads ws) == (okFit a reads ws && fitsS a reads ws))) (by simp) ?_
    | refine nameB_no (b := !(okFit a reads ws == okFit a reads ws)) (by simp) ?_
    | refine nameB_true ?_
    | refine nameB_false ?_
    | refine nameB_yes (by assumption) ?_
    | refine nameB_no (by assumption) ?_
    | refine nameB_dyes (by assumption) ?_
    | refine nameB_dno (by assumption) ?_
    | (refine nameB_dec (fun h => ?_) (fun h => ?_) <;> try simp only [List.length_map, List.length_take, List.length_append, List.length_drop, List.length_set, markList_length, midL_len, mkL_length, Int.toNat_natCast, fact_byte] at h)
    | (refine nameB_cases (fun h => ?_) (fun h => ?_) <;> try simp only [bne_iff_ne, ne_eq, bne_eq_false_iff_eq, beq_iff_eq, beq_eq_false_iff_ne, Bool.not_eq_true', Bool.not_eq_false', Bool.or_eq_true, Bool.or_eq_false_iff, List.length_map, List.length_take, List.length_append, List.length_drop, List.length_set, markList_length, midL_len, mkL_length, Int.toNat_natCast, fact_byte] at h)
    | refine splitB_true ?_
    | refine splitB_false ?_
    | (refine splitB_intro (fun h => ?_) (fun h => ?_) <;> subst h)
    | refine draw_text (by kernel_rfl) (by kernel_rfl) (by kernel_rfl) ?_
    | refine both_intro ?_ ?_
    | exact True.intro
    | (show Go.Ab.CallA _ _ _ _ _ _ _; first
        | (by_cases hn : 1048576 - ((a.w : Nat) : Int) < 0 <;> first | refine Call0 (pc_szneg (c_laws_szState a 1048576 (by omega) (by omega) hok) hn) rfl rfl ?_ | refine Call0 (pc_szpos (c_laws_szState a 1048576 (by omega) (by omega) hok) hn) rfl rfl ?_)
        | (by_cases hn2 : (1048576 - ((a.w : Nat) : Int)) - ((wL List.length reads : Nat) : Int) < 0 <;> first | refine Call0 (pc_szneg (c_laws_szStringS reads (1048576 - ((a.w : Nat) : Int)) (by omega) (by omega) h1) hn2) rfl rfl ?_ | refine Call0 (pc_szpos (c_laws_szStringS reads (1048576 - ((a.w : Nat) : Int)) (by omega) (by omega) h1) hn2) rfl rfl ?_)
        | (by_cases hn3 : ((1048576 - ((a.w : Nat) : Int)) - ((wL List.length reads : Nat) : Int)) - ((wL WriteT.w ws : Nat) : Int) < 0 <;> first | refine Call0 (pc_szneg (c_laws_szWriteS ws ((1048576 - ((a.w : Nat) : Int)) - ((wL List.length reads : Nat) : Int)) (by omega) (by omega) h2) hn3) rfl rfl ?_ | refine Call0 (pc_szpos (c_laws_szWriteS ws ((1048576 - ((a.w : Nat) : Int)) - ((wL List.length reads : Nat) : Int)) (by omega) (by omega) h2) hn3) rfl rfl ?_)
        | refine Call0 (c_spec_FitsState a reads ws hok h1 h2 (by omega) (by omega) (allW_sz (by omega))) rfl rfl ?_
        | refine Call0 (c_impl_FitsState a reads ws hok h1 h2 (by omega) (by omega) (by omega)) rfl rfl ?_
        | refine CallF (c_laws_toState a (by omega)) rfl rfl rfl (Nat.le_of_ble_eq_true rfl) ?_
        | refine CallF (c_laws_toStringS reads (by omega)) rfl rfl rfl (Nat.le_of_ble_eq_true rfl) ?_
        | refine CallF (c_laws_toWriteS ws (by omega)) rfl rfl rfl (Nat.le_of_ble_eq_true rfl) ?_
        | refine Call0 (pc_true (c_laws_eqState a a hok) rfl) rfl rfl ?_
        | refine Call0 (pc_true (c_laws_eqStringS reads reads h1) rfl) rfl rfl ?_
        | refine Call0 (pc_true (c_laws_eqWriteS ws ws h2) rfl) rfl rfl ?_)
    | (show Go.Ab.CallD _ _ _ _ _ _ _; first
        | (by_cases hn : 1048576 - ((a.w : Nat) : Int) < 0 <;> first | refine CallD0 (pc_szneg (c_laws_szState a 1048576 (by omega) (by omega) hok) hn) rfl rfl rfl ?_ | refine CallD0 (pc_szpos (c_laws_szState a 1048576 (by omega) (by omega) hok) hn) rfl rfl rfl ?_)
        | (by_cases hn2 : (1048576 - ((a.w : Nat) : Int)) - ((wL List.length reads : Nat) : Int) < 0 <;> first | refine CallD0 (pc_szneg (c_laws_szStringS reads (1048576 - ((a.w : Nat) : Int)) (by omega) (by omega) h1) hn2) rfl rfl rfl ?_ | refine CallD0 (pc_szpos (c_laws_szStringS reads (1048576 - ((a.w : Nat) : Int)) (by omega) (by omega) h1) hn2) rfl rfl rfl ?_)
        | (by_cases hn3 : ((1048576 - ((a.w : Nat) : Int)) - ((wL List.length reads : Nat) : Int)) - ((wL WriteT.w ws : Nat) : Int) < 0 <;> first | refine CallD0 (pc_szneg (c_laws_szWriteS ws ((1048576 - ((a.w : Nat) : Int)) - ((wL List.length reads : Nat) : Int)) (by omega) (by omega) h2) hn3) rfl rfl rfl ?_ | refine CallD0 (pc_szpos (c_laws_szWriteS ws ((1048576 - ((a.w : Nat) : Int)) - ((wL List.length reads : Nat) : Int)) (by omega) (by omega) h2) hn3) rfl rfl rfl ?_)
        | refine CallD0 (c_spec_FitsState a reads ws hok h1 h2 (by omega) (by omega) (allW_sz (by omega))) rfl rfl rfl ?_
        | refine CallD0 (c_impl_FitsState a reads ws hok h1 h2 (by omega) (by omega) (by omega)) rfl rfl rfl ?_
        | refine CallDF (c_laws_toState a (by omega)) rfl rfl ⟨rfl, rfl⟩ ?_
        | refine CallDF (c_laws_toStringS reads (by omega)) rfl rfl ⟨rfl, rfl⟩ ?_
        | refine CallDF (c_laws_toWriteS ws (by omega)) rfl rfl ⟨rfl, rfl⟩ ?_
        | refine CallD0 (pc_true (c_laws_eqState a a hok) rfl) rfl rfl rfl ?_
        | refine CallD0 (pc_true (c_laws_eqStringS reads reads h1) rfl) rfl rfl rfl ?_
        | refine CallD0 (pc_true (c_laws_eqWriteS ws ws h2) rfl) rfl rfl rfl ?_)
    | refine ix_map_at hx ?_
    | refine ix_map_at hy ?_
    | refine sl_pre (by omega) (fun _ => rfl) ?_
    | refine sl_suf (by omega) (fun _ => rfl) ?_
    | (refine ix_map2 hx (by omega) (by (try simp only [List.length_take]); omega) (fun y hy => ?_); try simp only [Int.toNat_natCast] at hy)
    | (refine ix_map (by omega) (by (try simp only [List.length_take]); omega) (fun x hx => ?_); try simp only [Int.toNat_natCast] at hx)
    | refine side_and (side_of (by first | (and_intros <;> first | exact Nat.le_of_ble_eq_true rfl | rfl | omega | (simp only [List.length_map, List.length_append, List.length_replicate, List.length_take, List.length_cons, List.length_nil, List.length_drop, List.length_set, markList_length, midL_len, mkL_length]; omega) | exact bytes_ok (Nat.le_of_ble_eq_true rfl) (by omega) (by simp only [List.length_map, List.length_append, List.length_replicate, List.length_take, List.length_cons, List.length_nil, List.length_drop, List.length_set, markList_length, midL_len, mkL_length]; omega) | exact bytes_okN (Nat.le_of_ble_eq_true rfl) (by simp only [List.length_map, List.length_append, List.length_replicate, List.length_take, List.length_cons, List.length_nil, List.length_drop, List.length_set, markList_length, midL_len, mkL_length]; omega)) | fail)) ?_
    | refine nilB_intro (fun h => ?_) ?_
    | refine side_and (side_of (show Go.Ab.structOk _ _ = true by kernel_rfl)) ?_
    | refine side_and (side_of (map_len (fun _ => rfl))) ?_
    | refine side_and (side_of (map_one (fun _ => rfl) _)) ?_
    | refine side_and ?_ ?_
    | refine LoadK_of rfl rfl ?_
    | refine LoadD_cel rfl rfl rfl rfl ?_
    | refine LoadD_of rfl ?_
    | refine StoreD_of rfl rfl rfl ?_
    | refine AppD_of rfl (by and_intros <;> first | rfl | decide) (by simp only [List.length_map, List.length_append, List.length_take, List.length_cons, List.length_nil]; first | (refine ⟨by omega, ?_⟩; refine Nat.le_trans (Nat.mul_le_mul_left _ (show _ ≤ 512 by decide)) ?_; omega) | fail) ?_
    | refine AppN_of rfl rfl (by and_intros <;> rfl) (by simp only [List.length_map, List.length_append, List.length_take, List.length_cons, List.length_nil]; first | (refine ⟨by omega, ?_⟩; refine Nat.le_trans (Nat.mul_le_mul_left _ (show _ ≤ 512 by decide)) ?_; omega) | fail) ?_
    | (show False; omega)
  all_goals
    conv => whnf
    refine OutA_plain rfl rfl ?_
    first
    | rfl
    | (simp_all [named, AV.sub, AV.sub.subL]; done)
    | (simp_all [named, AV.sub, AV.sub.subL] <;> omega)
end Go.Proofs.YtlbnlnepoidjmaaGreat
