/-
  Copies of deals whose states are zero.
  No condition.
-/
import Derived.Test.YtgkghkcahepicaaGreatNew1
namespace Go.Proofs.YtgkghkcahepicaaGreat
open Go.Ab
set_option linter.unusedSimpArgs false
set_option maxRecDepth 20000
set_option maxHeartbeats 4000000
set_option linter.unusedVariables false

theorem deep_app {o es L : List (List AV)} {b : Nat} (h1 : o = L) (h2 : es.length = 1) (hl : L.length ≤ 1048576) (hb : b ≤ 4096) : o.length + es.length ≤ 70368744177664 ∧ (o.length + es.length) * b ≤ 140737488355328 := by
  rw [h1, h2]
  exact ⟨by omega, Nat.le_trans (Nat.mul_le_mul (Nat.succ_le_succ hl) hb) (Nat.le_of_ble_eq_true rfl)⟩
def zc (_ : Unit) : List AV := StateT.cells zeroS
theorem c_impl_copyDeal0 (cs : List (List UInt8)) (us : List Unit) (os : List OrderT) (hc : cs.length ≤ 1048576) (hu : us.length ≤ 1048576) (ho : os.length ≤ 1048576) (hb : ∀ x ∈ os, x.Reads.length ≤ 1048576 ∧ x.Writes.length ≤ 1048576) : PC Tryz.prog false 48 [.agg [.sl (cs.map strC), .sl (us.map zr), .sl (os.map OrderT.cells)]] (.agg [.own 0, .own 1, .own 2]) [⟨.deep [.leaf], 9, 1, cs.map strC⟩, ⟨.deep StateT.shp, 61, 4, us.map zc⟩, ⟨.deep OrderT.shp, 81, 3, os.map OrderT.cells⟩] := by
  refine pc_at Tryz.func48 rfl (by kernel_rfl) 43 [.cell 2 34] rfl rfl ?_
  repeat' (conv => whnf); first
    | (show Go.Ab.drawA _ _ _ _ _; refine draw_exp (.take 0 (.fork 1 (.fork 2 (.fork 3 (.fork 4 (.fork 5 (.take 6 (.fork 7 (.done) (.stop))) (.stop)) (.stop)) (.stop)) (.stop)) (.fork 2 (.fork 1 (.fork 3 (.fork 4 (.fork 5 (.take 6 (.fork 7 (.done) (.stop))) (.stop)) (.stop)) (.stop)) (.fork 3 (.fork 1 (.fork 4 (.fork 5 (.take 6 (.fork 7 (.done) (.stop))) (.stop)) (.stop)) (.fork 4 (.fork 1 (.fork 5 (.take 6 (.fork 7 (.done) (.stop))) (.stop)) (.stop)) (.stop))) (.stop))) (.stop)))) (by kernel_rfl) (by kernel_rfl) (by kernel_rfl) ?_)
    | (show Go.Ab.drawA _ _ _ _ _; refine draw_exp (.take 0 (.fork 1 (.fork 2 (.fork 3 (.fork 4 (.fork 5 (.take 6 (.fork 7 (.done) (.stop))) (.stop)) (.stop)) (.stop)) (.stop)) (.fork 2 (.fork 1 (.fork 3 (.fork 4 (.fork 5 (.take 6 (.fork 7 (.done) (.stop))) (.stop)) (.stop)) (.stop)) (.fork 3 (.fork 1 (.fork 4 (.fork 5 (.take 6 (.fork 7 (.done) (.stop))) (.stop)) (.stop)) (.fork 4 (.fork 1 (.fork 5 (.take 6 (.fork 7 (.done) (.stop))) (.stop)) (.stop)) (.stop))) (.stop))) (.stop)))) (by kernel_rfl) (by kernel_rfl) (by kernel_rfl) ?_)
    | refine nameB_true ?_
    | refine nameB_false ?_
    | refine nameB_yes (by assumption) ?_
    | refine nameB_no (by assumption) ?_
    | refine nameB_dyes (by assumption) ?_
    | refine nameB_dno (by assumption) ?_
    | (refine nameB_dec (fun h => ?_) (fun h => ?_) <;> try simp only [lensB, midL_len, mkL_length, Int.toNat_natCast, fact_byte] at h)
    | (refine nameB_cases (fun h => ?_) (fun h => ?_) <;> try simp only [bne_iff_ne, ne_eq, bne_eq_false_iff_eq, beq_iff_eq, beq_eq_false_iff_ne, Bool.not_eq_true', Bool.not_eq_false', Bool.or_eq_true, Bool.or_eq_false_iff, lensB, midL_len, mkL_length, Int.toNat_natCast, fact_byte] at h)
    | refine splitB_true ?_
    | refine splitB_false ?_
    | (refine splitB_intro (fun h => ?_) (fun h => ?_) <;> subst h)
    | refine draw_text (by kernel_rfl) (by kernel_rfl) (by kernel_rfl) ?_
    | refine both_intro ?_ ?_
    | refine eitherB_l ?_
    | exact True.intro
    | (show Go.Ab.Loop _ _ _; first
        | (refine Loop_nilB 4160 1 61 4 1 rfl rfl rfl (by decide) ?_; refine Loop_prom [(1, StateT.shp)] ⟨⟨_, _, _, rfl, by first | exact prom_nil | exact prom_rep rfl | exact prom_map (fun _ => rfl) | exact prom_one rfl⟩, trivial⟩ ?_; refine Loop_at [1, 2, 3, 13, 14] [0, 16, 4128] (Nat) (fun k => True ∧ k ≤ us.length) (fun k => [(15, .int .i64 (k : Nat))]) (fun k => [(4160, ⟨true, 34, 3, [[.own 4128, .own 1, .nil]]⟩), (1, ⟨.deep StateT.shp, 61, 4, (us.take k).map zc⟩)]) (fun k => us.length - k) 0 ⟨by first | (simp_all <;> fail) | rfl | fail, trivial⟩ ⟨by first | rfl | exact congrArg (fun e => some (AObj.mk _ _ _ e)) (app_snoc hx rfl) | fail | fail, by first | rfl | exact congrArg (fun e => some (AObj.mk _ _ _ e)) (app_snoc hx rfl) | fail | fail, trivial⟩ (by (try dsimp only); first | trivial | (refine ⟨?_, by omega⟩; simp <;> fail) | (simp <;> fail) | fail) ?_; (conv => whnf); refine side_and (side_of (by first | exact fun k => rfl | exact fun k => by simp [headOk, closedE, closedO, closedL, AV.closed, hcap.closed, hasId, AObj.box, BK.ofB])) ?_; rintro k hT; try dsimp only at hT)
        | (refine Loop_nilB 4160 2 81 3 2 rfl rfl rfl (by decide) ?_; refine Loop_prom [(2, OrderT.shp)] ⟨⟨_, _, _, rfl, by first | exact prom_nil | exact prom_rep rfl | exact prom_map (fun _ => rfl) | exact prom_one rfl⟩, trivial⟩ ?_; refine Loop_at [2, 3, 28, 29] [0, 16, 1, 4128] (Nat) (fun m => True ∧ m ≤ os.length) (fun m => [(30, .int .i64 (m : Nat))]) (fun m => [(4160, ⟨true, 34, 3, [[.own 4128, .own 1, .own 2]]⟩), (2, ⟨.deep OrderT.shp, 81, 3, (os.take m).map OrderT.cells⟩)]) (fun m => os.length - m) 0 ⟨by first | (simp_all <;> fail) | rfl | fail, trivial⟩ ⟨by first | rfl | exact congrArg (fun e => some (AObj.mk _ _ _ e)) (app_snoc hx rfl) | fail | fail, by first | rfl | exact congrArg (fun e => some (AObj.mk _ _ _ e)) (app_snoc hx rfl) | fail | fail, trivial⟩ (by (try dsimp only); first | trivial | (refine ⟨?_, by omega⟩; simp <;> fail) | (simp <;> fail) | fail) ?_; (conv => whnf); refine side_and (side_of (by first | exact fun m => rfl | exact fun m => by simp [headOk, closedE, closedO, closedL, AV.closed, hcap.closed, hasId, AObj.box, BK.ofB])) ?_; rintro m hI; try dsimp only at hI))
    | (show Go.Ab.Again _ _ _ _ _ _ _ _ _ _ _; first
        | refine Again_of (k + 1) ⟨by first | rfl | exact i64_next (by omega) | (simp_all <;> fail) | fail, trivial⟩ ⟨by first | rfl | exact congrArg (fun e => some (AObj.mk _ _ _ e)) (app_snoc hx rfl) | fail | fail, by first | rfl | exact congrArg (fun e => some (AObj.mk _ _ _ e)) (app_snoc hx rfl) | fail | fail, trivial⟩ (by first | (and_intros <;> first | rfl | trivial) | fail) (by first | (and_intros <;> first | rfl | trivial) | fail) rfl rfl rfl (by (try dsimp only); first | (exact ⟨trivial, by omega⟩) | fail) (show _ < _ by (try dsimp only); omega)
        | refine Again_of (m + 1) ⟨by first | rfl | exact i64_next (by omega) | (simp_all <;> fail) | fail, trivial⟩ ⟨by first | rfl | exact congrArg (fun e => some (AObj.mk _ _ _ e)) (app_snoc hx rfl) | fail | fail, by first | rfl | exact congrArg (fun e => some (AObj.mk _ _ _ e)) (app_snoc hx rfl) | fail | fail, trivial⟩ (by first | (and_intros <;> first | rfl | trivial) | fail) (by first | (and_intros <;> first | rfl | trivial) | fail) rfl rfl rfl (by (try dsimp only); first | (exact ⟨trivial, by omega⟩) | fail) (show _ < _ by (try dsimp only); omega))
    | (show Go.Ab.CallA _ _ _ _ _ _ _; first
        | refine CallF (c_Clone_str3 cs hc) rfl rfl rfl (Nat.le_of_ble_eq_true rfl) ?_
        | refine CallF (c_impl_copyState0) rfl rfl rfl (Nat.le_of_ble_eq_true rfl) ?_
        | refine CallF (c_impl_copyOrder x (hb x (List.mem_of_getElem? hx)).1 (hb x (List.mem_of_getElem? hx)).2) rfl rfl rfl (Nat.le_of_ble_eq_true rfl) ?_)
    | (show Go.Ab.CallD _ _ _ _ _ _ _; first
        | refine CallDF (c_Clone_str3 cs hc) rfl rfl ⟨rfl, rfl⟩ ?_
        | refine CallDF (c_impl_copyState0) rfl rfl ⟨rfl, rfl⟩ ?_
        | refine CallDF (c_impl_copyOrder x (hb x (List.mem_of_getElem? hx)).1 (hb x (List.mem_of_getElem? hx)).2) rfl rfl ⟨rfl, rfl⟩ ?_)
    | refine ix_map_at hx ?_
    | refine ix_map_at hy ?_
    | refine sl_pre (by omega) (fun _ => rfl) ?_
    | refine sl_suf (by omega) (fun _ => rfl) ?_
    | (refine ix_map2 hx (by omega) (by (try simp only [List.length_take]); omega) (fun y hy => ?_); try simp only [Int.toNat_natCast] at hy)
    | (refine ix_map (by omega) (by (try simp only [List.length_take]); omega) (fun x hx => ?_); try simp only [Int.toNat_natCast] at hx)
    | refine side_and (side_of (by first | (and_intros <;> first | exact Nat.le_of_ble_eq_true rfl | rfl | omega | (simp only [lensB, lensC, List.length_replicate, midL_len, mkL_length]; omega) | exact bytes_ok (Nat.le_of_ble_eq_true rfl) (by omega) (by simp only [lensB, lensC, List.length_replicate, midL_len, mkL_length]; omega) | exact bytes_okN (Nat.le_of_ble_eq_true rfl) (by simp only [lensB, lensC, List.length_replicate, midL_len, mkL_length]; omega)) | fail)) ?_
    | refine nilB_intro (fun h => ?_) ?_
    | refine side_and (side_of (show Go.Ab.structOk _ _ = true by kernel_rfl)) ?_
    | refine side_and (side_of (map_len (fun _ => rfl))) ?_
    | refine side_and (side_of (map_one (fun _ => rfl) _)) ?_
    | refine side_and ?_ ?_
    | refine LoadK_of rfl rfl ?_
    | refine LoadD_cel rfl rfl rfl rfl ?_
    | refine LoadD_of rfl ?_
    | refine StoreD_of rfl rfl rfl ?_
    | refine AppD_of rfl (by and_intros <;> first | rfl | decide) (by simp only [lensC]; first | (refine ⟨by omega, ?_⟩; refine Nat.le_trans (Nat.mul_le_mul_left _ (show _ ≤ 512 by decide)) ?_; omega) | fail) ?_
    | refine AppN_of rfl rfl (by and_intros <;> rfl) (by simp only [lensC]; first | (refine ⟨by omega, ?_⟩; refine Nat.le_trans (Nat.mul_le_mul_left _ (show _ ≤ 512 by decide)) ?_; omega) | fail) ?_
    | refine BuildD_of StateT.shp rfl rfl rfl ?_
    | refine BuildD_of OrderT.shp rfl rfl rfl ?_
    | refine AppD_of rfl (by and_intros <;> first | rfl | decide) (deep_app (L := (us.take k).map zc) rfl rfl (by rw [List.length_map, List.length_take]; omega) (Nat.le_of_ble_eq_true rfl)) ?_
    | refine AppD_of rfl (by and_intros <;> first | rfl | decide) (deep_app (L := (os.take m).map OrderT.cells) rfl rfl (by rw [List.length_map, List.length_take]; omega) (Nat.le_of_ble_eq_true rfl)) ?_
    | (show False; omega)
  all_goals
    conv => whnf
    refine OutA_prom [(4128, [.leaf])] ⟨⟨_, _, _, rfl, prom_map (fun _ => rfl)⟩, trivial⟩ ?_
    conv => whnf
    exact OutA_deep rfl rfl rfl ⟨⟨rfl, rfl⟩, ⟨congrArg (fun e => some (AObj.mk _ _ _ e)) (full_take (by omega)), rfl⟩, ⟨congrArg (fun e => some (AObj.mk _ _ _ e)) (full_take (by omega)), rfl⟩, trivial⟩ rfl
end Go.Proofs.YtgkghkcahepicaaGreat
