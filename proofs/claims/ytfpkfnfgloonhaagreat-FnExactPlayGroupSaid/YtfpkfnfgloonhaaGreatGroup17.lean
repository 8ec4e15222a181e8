/-
  What a start of a replica gives.
  No condition.
-/
import Derived.Test.YtfpkfnfgloonhaaGreatGroup6
namespace Go.Proofs.YtfpkfnfgloonhaaGreat
open Go.Ab
set_option linter.unusedSimpArgs false
set_option maxRecDepth 20000
set_option maxHeartbeats 4000000
set_option linter.unusedVariables false

def startR (g : GroupT) (r : Int) : GroupT := resG (okUp g r false) ⟨setRep g r fun y => { y with Up := true }, g.Term, g.Lead⟩
theorem startR_yes {g : GroupT} {r : Int} (h : okUp g r false = true) : startR g r = ⟨setRep g r fun y => { y with Up := true }, g.Term, g.Lead⟩ := by rw [startR, resG_yes h]
theorem startR_no {g : GroupT} {r : Int} (h : okUp g r false = false) : startR g r = ⟨[], 0, 0⟩ := by rw [startR, resG_no h]; rfl
theorem downI {g : GroupT} {r : Int} (h1 : okGroup g = true) (h2 : isRep g r = true) (h3 : upAt g r = false) : okUp g r false = true := by unfold okUp; rw [h1, h2, h3]; rfl
theorem downI_no {g : GroupT} {r : Int} (h : okGroup g = false ∨ isRep g r = false ∨ upAt g r = true) : okUp g r false = false := by
  unfold okUp
  rcases h with h | h | h <;> simp [h]
theorem c_spec_StartRep (g : GroupT) (r : Int) (hok : g.ok) (hw : GB g) : PC Tryz.prog true 90 [.agg g.cells, .int .i64 r] (.tup [.agg (startR g r).cells, .bool (okUp g r false)]) [] := by
  have hl := reps_len hw
  refine pc_at Tryz.func90 rfl (by kernel_rfl) 20 [.cell 4 38, .tmp 5] rfl rfl ?_
  repeat' (conv => whnf); first
    | exact side_of (okUp_side (b := false) (by assumption))
    | refine ix_own (f := ReplicaT.cells) (xs := g.Reps) (okUp_lt (b := false) (by assumption)).2 (fun y hy => ?_)
    | (refine nameB_cases (b := okUp g r false) (fun h => ?_) (fun h => ?_))
    | refine nameB_true ?_
    | refine nameB_false ?_
    | refine nameB_yes (by assumption) ?_
    | refine nameB_no (by assumption) ?_
    | refine nameB_dyes (by assumption) ?_
    | refine nameB_dno (by assumption) ?_
    | (refine nameB_dec (fun h => ?_) (fun h => ?_) <;> try simp only [lensB, midL_len, mkL_length, Int.toNat_natCast, fact_byte] at h)
    | (refine nameB_cases (fun h => ?_) (fun h => ?_) <;> try simp only [bne_iff_ne, ne_eq, bne_eq_false_iff_eq, beq_iff_eq, beq_eq_false_iff_ne, Bool.not_eq_true', Bool.not_eq_false', Bool.or_eq_true, Bool.or_eq_false_iff, lensB, midL_len, mkL_length, Int.toNat_natCast, fact_byte] at h)
    | refine splitB_true ?_
    | refine splitB_false ?_
    | (refine splitB_intro (fun h => ?_) (fun h => ?_) <;> subst h)
    | refine draw_text (by kernel_rfl) (by kernel_rfl) (by kernel_rfl) ?_
    | refine both_intro ?_ ?_
    | refine eitherB_l ?_
    | exact True.intro
    | (show Go.Ab.CallA _ _ _ _ _ _ _; first
        | refine Call0 (c_spec_l9Up g r false hok hw) rfl rfl ?_
        | refine CallT (c_spec_l9Own g hw) rfl rfl rfl rfl (Nat.le_of_ble_eq_true rfl) ?_)
    | refine ix_map_at hx ?_
    | refine ix_map_at hy ?_
    | refine sl_pre (by omega) (fun _ => rfl) ?_
    | refine sl_suf (by omega) (fun _ => rfl) ?_
    | (refine ix_map2 hx (by omega) (by (try simp only [List.length_take]); omega) (fun y hy => ?_); try simp only [Int.toNat_natCast] at hy)
    | (refine ix_map (by omega) (by (try simp only [List.length_take]); omega) (fun x hx => ?_); try simp only [Int.toNat_natCast] at hx)
    | refine side_and (side_of (by first | (and_intros <;> first | exact Nat.le_of_ble_eq_true rfl | rfl | omega | (simp only [lensB, lensC, List.length_replicate, midL_len, mkL_length]; omega) | exact bytes_ok (Nat.le_of_ble_eq_true rfl) (by omega) (by simp only [lensB, lensC, List.length_replicate, midL_len, mkL_length]; omega) | exact bytes_okN (Nat.le_of_ble_eq_true rfl) (by simp only [lensB, lensC, List.length_replicate, midL_len, mkL_length]; omega)) | fail)) ?_
    | refine nilB_intro (fun h => ?_) ?_
    | refine side_and (side_of (show Go.Ab.structOk _ _ = true by kernel_rfl)) ?_
    | refine side_and (side_of (map_len (fun _ => rfl))) ?_
    | refine side_and (side_of (map_one (fun _ => rfl) _)) ?_
    | refine side_and ?_ ?_
    | refine LoadK_of rfl rfl ?_
    | refine LoadD_cel rfl rfl rfl rfl ?_
    | refine LoadD_of rfl ?_
    | refine StoreD_of rfl rfl rfl ?_
    | refine AppD_of rfl (by and_intros <;> first | rfl | decide) (by simp only [lensC]; first | (refine ⟨by omega, ?_⟩; refine Nat.le_trans (Nat.mul_le_mul_left _ (show _ ≤ 512 by decide)) ?_; omega) | fail) ?_
    | refine AppN_of rfl rfl (by and_intros <;> rfl) (by simp only [lensC]; first | (refine ⟨by omega, ?_⟩; refine Nat.le_trans (Nat.mul_le_mul_left _ (show _ ≤ 512 by decide)) ?_; omega) | fail) ?_
    | (show False; omega)
  all_goals
    conv => whnf
    first
    | (have h0 : okUp g r false = true := (by assumption); rw [h0, startR_yes h0]; refine OutA_frz [12304] ?_; (conv => whnf); exact OutA_plain rfl rfl (congrArg (fun e => AV.tup [.agg [.sl e, .int .i64 g.Term, .int .i64 g.Lead], .bool true]) (setRep_cells (f := fun y => { y with Up := true }) hy rfl)))
    | (have h0 : okUp g r false = false := (by assumption); rw [h0, startR_no h0]; refine OutA_nilB 16 1 90 3 0 rfl rfl rfl (by decide) ?_; refine OutA_frz [1] ?_; (conv => whnf); exact OutA_plain rfl rfl rfl)
theorem c_impl_StartRep (g : GroupT) (r : Int) (hok : g.ok) (hw : GB g) : PC Tryz.prog false 122 [.agg g.cells, .int .i64 r] (.tup [.agg [.own 0, .int .i64 (startR g r).Term, .int .i64 (startR g r).Lead], .bool (okUp g r false)]) [⟨.deep ReplicaT.shp, 90, 3, (startR g r).Reps.map ReplicaT.cells⟩] := by
  have hl := reps_len hw
  refine pc_at Tryz.func122 rfl (by kernel_rfl) 33 [.cell 4 38, .tmp 5] rfl rfl ?_
  repeat' (conv => whnf); first
    | refine ix_as (f := ReplicaT.cells) (m := r.toNat) (by have h9 := isRep_lt (g := g) (n := r) (by assumption); omega) (by have h9 := isRep_lt (g := g) (n := r) (by assumption); omega) (fun y hy => ?_)
    | exact side_of (isRep_side (by assumption))
    | refine ix_ownat (f := ReplicaT.cells) (xs := g.Reps) hy ?_
    | (refine nameB_cases (b := okGroup g) (fun h => ?_) (fun h => ?_))
    | (refine nameB_cases (b := isRep g r) (fun h => ?_) (fun h => ?_))
    | (refine nameB_cases (b := y.Up) (fun h => ?_) (fun h => ?_))
    | refine nameB_true ?_
    | refine nameB_false ?_
    | refine nameB_yes (by assumption) ?_
    | refine nameB_no (by assumption) ?_
    | refine nameB_dyes (by assumption) ?_
    | refine nameB_dno (by assumption) ?_
    | (refine nameB_dec (fun h => ?_) (fun h => ?_) <;> try simp only [lensB, midL_len, mkL_length, Int.toNat_natCast, fact_byte] at h)
    | (refine nameB_cases (fun h => ?_) (fun h => ?_) <;> try simp only [bne_iff_ne, ne_eq, bne_eq_false_iff_eq, beq_iff_eq, beq_eq_false_iff_ne, Bool.not_eq_true', Bool.not_eq_false', Bool.or_eq_true, Bool.or_eq_false_iff, lensB, midL_len, mkL_length, Int.toNat_natCast, fact_byte] at h)
    | refine splitB_true ?_
    | refine splitB_false ?_
    | (refine splitB_intro (fun h => ?_) (fun h => ?_) <;> subst h)
    | refine draw_text (by kernel_rfl) (by kernel_rfl) (by kernel_rfl) ?_
    | refine both_intro ?_ ?_
    | refine eitherB_l ?_
    | exact True.intro
    | (show Go.Ab.CallA _ _ _ _ _ _ _; first
        | refine Call0 (c_impl_GoodGroup g hok hw) rfl rfl ?_
        | refine Call0 (c_impl_Group_isRep g r hw) rfl rfl ?_
        | refine CallF (c_impl_copyGroup g hw) rfl rfl rfl (Nat.le_of_ble_eq_true rfl) ?_)
    | refine ix_map_at hx ?_
    | refine ix_map_at hy ?_
    | refine sl_pre (by omega) (fun _ => rfl) ?_
    | refine sl_suf (by omega) (fun _ => rfl) ?_
    | (refine ix_map2 hx (by omega) (by (try simp only [List.length_take]); omega) (fun y hy => ?_); try simp only [Int.toNat_natCast] at hy)
    | (refine ix_map (by omega) (by (try simp only [List.length_take]); omega) (fun x hx => ?_); try simp only [Int.toNat_natCast] at hx)
    | refine side_and (side_of (by first | (and_intros <;> first | exact Nat.le_of_ble_eq_true rfl | rfl | omega | (simp only [lensB, lensC, List.length_replicate, midL_len, mkL_length]; omega) | exact bytes_ok (Nat.le_of_ble_eq_true rfl) (by omega) (by simp only [lensB, lensC, List.length_replicate, midL_len, mkL_length]; omega) | exact bytes_okN (Nat.le_of_ble_eq_true rfl) (by simp only [lensB, lensC, List.length_replicate, midL_len, mkL_length]; omega)) | fail)) ?_
    | refine nilB_intro (fun h => ?_) ?_
    | refine side_and (side_of (show Go.Ab.structOk _ _ = true by kernel_rfl)) ?_
    | refine side_and (side_of (map_len (fun _ => rfl))) ?_
    | refine side_and (side_of (map_one (fun _ => rfl) _)) ?_
    | refine side_and ?_ ?_
    | refine LoadK_of rfl rfl ?_
    | refine LoadD_cel rfl rfl rfl rfl ?_
    | refine LoadD_of rfl ?_
    | refine StoreD_of rfl rfl rfl ?_
    | refine AppD_of rfl (by and_intros <;> first | rfl | decide) (by simp only [lensC]; first | (refine ⟨by omega, ?_⟩; refine Nat.le_trans (Nat.mul_le_mul_left _ (show _ ≤ 512 by decide)) ?_; omega) | fail) ?_
    | refine AppN_of rfl rfl (by and_intros <;> rfl) (by simp only [lensC]; first | (refine ⟨by omega, ?_⟩; refine Nat.le_trans (Nat.mul_le_mul_left _ (show _ ≤ 512 by decide)) ?_; omega) | fail) ?_
    | (show False; omega)
  all_goals
    (try have hyu := upAt_of hy)
    conv => whnf
    first
    | (have h0 : okUp g r false = true := downI (by assumption) (by assumption) (hyu.trans (by assumption)); rw [h0, startR_yes h0]; exact OutA_deep rfl rfl rfl ⟨⟨congrArg (fun e => some (AObj.mk _ _ _ e)) (setRep_cells (f := fun y => { y with Up := true }) hy rfl), rfl⟩, trivial⟩ rfl)
    | (have h0 : okUp g r false = false := downI_no (by first | exact .inl (by assumption) | exact .inr (.inl (by assumption)) | exact .inr (.inr (hyu.trans (by assumption)))); rw [h0, startR_no h0]; refine OutA_nilB 16 1 90 3 0 rfl rfl rfl (by decide) ?_; refine OutA_prom [(1, ReplicaT.shp)] ⟨⟨_, _, _, rfl, prom_nil⟩, trivial⟩ ?_; (conv => whnf); exact OutA_deep rfl rfl rfl ⟨⟨rfl, rfl⟩, trivial⟩ rfl)
end Go.Proofs.YtfpkfnfgloonhaaGreat
