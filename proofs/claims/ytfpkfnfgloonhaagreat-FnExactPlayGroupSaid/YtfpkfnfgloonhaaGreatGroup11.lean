/-
  What a copy of the leader's log gives.
  No condition.
-/
import Derived.Test.YtfpkfnfgloonhaaGreatGroup8b
namespace Go.Proofs.YtfpkfnfgloonhaaGreat
open Go.Ab
set_option linter.unusedSimpArgs false
set_option maxRecDepth 20000
set_option maxHeartbeats 4000000
set_option linter.unusedVariables false

def logOf (g : GroupT) (r : Int) : List EntryT := match g.Reps[r.toNat]? with | some y => y.Log | none => []
def sureOf (g : GroupT) (r : Int) : Int := match g.Reps[r.toNat]? with | some y => y.Sure | none => 0
theorem logOf_of {g : GroupT} {r : Int} {y : ReplicaT} (h : g.Reps[r.toNat]? = some y) : logOf g r = y.Log := by unfold logOf; rw [h]
theorem sureOf_of {g : GroupT} {r : Int} {y : ReplicaT} (h : g.Reps[r.toNat]? = some y) : sureOf g r = y.Sure := by unfold sureOf; rw [h]
def mx (a b : Int) : Int := if b > a then b else a
def mn (a b : Int) : Int := if b < a then b else a
def copyF (g : GroupT) (y : ReplicaT) : ReplicaT := ⟨true, logOf g g.Lead, mn (mx (sureOf g g.Lead) y.Sure) ((logOf g g.Lead).length : Int)⟩
def okCopy (g : GroupT) (r : Int) : Bool := okUp g r true && (!decide (g.Lead < 0) && !decide (r = g.Lead))
def copyN (g : GroupT) (r : Int) : GroupT := ⟨setRep g r (copyF g), g.Term, g.Lead⟩
def copyR (g : GroupT) (r : Int) : GroupT := resG (okCopy g r) (copyN g r)
theorem copyR_yes {g : GroupT} {r : Int} (h : okCopy g r = true) : copyR g r = ⟨setRep g r (copyF g), g.Term, g.Lead⟩ := by rw [copyR, resG_yes h]; rfl
theorem copyR_no {g : GroupT} {r : Int} (h : okCopy g r = false) : copyR g r = ⟨[], 0, 0⟩ := by rw [copyR, resG_no h]; rfl
theorem copy_yes {g : GroupT} {r : Int} (h1 : okUp g r true = true) (h2 : ¬ g.Lead < 0) (h3 : ¬ r = g.Lead) : okCopy g r = true := by unfold okCopy; rw [h1, decide_eq_false h2, decide_eq_false h3]; rfl
theorem copy_no {g : GroupT} {r : Int} (h : okUp g r true = false ∨ g.Lead < 0 ∨ r = g.Lead) : okCopy g r = false := by
  unfold okCopy
  rcases h with h | h | h
  · rw [h]; rfl
  · rw [decide_eq_true h]; simp
  · rw [decide_eq_true h]; simp
theorem copy_cells {g : GroupT} {y l : ReplicaT} {n : Int} (hl : g.Reps[g.Lead.toNat]? = some l) (hn : n = mn (mx l.Sure y.Sure) ((l.Log.map EntryT.cells).length : Int)) : [.bool true, .sl (l.Log.map EntryT.cells), .int .i64 n] = (copyF g y).cells := by
  rw [List.length_map] at hn
  unfold copyF
  rw [logOf_of hl, sureOf_of hl, hn]
  rfl
theorem copy_log {g : GroupT} {x : ReplicaT} (hw : GB g) (h : g.Reps[g.Lead.toNat]? = some x) : wL EntryT.w x.Log ≤ 1048576 := rep_w hw (List.mem_of_getElem? h)
theorem okUp_g' {g : GroupT} {r : Int} {b : Bool} (h : okUp g r b = true) : okGroup g = true := by
  unfold okUp at h
  simp only [Bool.and_eq_true] at h
  exact h.1
theorem c_impl_CopyTo (g : GroupT) (r : Int) (hok : g.ok) (hw : GB g) : PC Tryz.prog false 124 [.agg g.cells, .int .i64 r] (.tup [.agg [.own 0, .int .i64 (copyR g r).Term, .int .i64 (copyR g r).Lead], .bool (okCopy g r)]) [⟨.deep ReplicaT.shp, 90, 3, (copyR g r).Reps.map ReplicaT.cells⟩] := by
  have hl := reps_len hw
  refine pc_at Tryz.func124 rfl (by kernel_rfl) 68 [.cell 4 38, .tmp 5] rfl rfl ?_
  repeat' (conv => whnf); first
    | (show Go.Ab.drawA _ _ _ _ _; refine draw_tail 20 (by kernel_rfl) (by kernel_rfl) (by kernel_rfl) ?_)
    | refine ix_re (f := ReplicaT.cells) (xs := g.Reps) (n := r) (isRep_lt (g := g) (n := r) (by assumption)).1 (by assumption) ?_
    | refine ix_as (f := ReplicaT.cells) (n := r) (m := r.toNat) (by have h9 := isRep_lt (g := g) (n := r) (by assumption); omega) (by have h9 := isRep_lt (g := g) (n := r) (by assumption); omega) (fun y hy => ?_)
    | refine ix_as (f := ReplicaT.cells) (n := g.Lead) (m := g.Lead.toNat) (by have h9 := okLead_lt (g := g) (by assumption) (by assumption); omega) (by have h9 := okLead_lt (g := g) (by assumption) (by assumption); omega) (fun l hl2 => ?_)
    | refine nameB_self (b := l.Up) ?_
    | refine nameB_self (b := y.Up) ?_
    | exact side_of (isRep_side (by assumption))
    | refine ix_ownat (f := ReplicaT.cells) (xs := g.Reps) hy ?_
    | (refine nameB_cases (b := okGroup g) (fun h => ?_) (fun h => ?_))
    | (refine nameB_cases (b := isRep g r) (fun h => ?_) (fun h => ?_))
    | (refine nameB_cases (b := y.Up) (fun h => ?_) (fun h => ?_))
    | refine nameB_true ?_
    | refine nameB_false ?_
    | refine nameB_yes (by assumption) ?_
    | refine nameB_no (by assumption) ?_
    | refine nameB_dyes (by assumption) ?_
    | refine nameB_dno (by assumption) ?_
    | (refine nameB_dec (fun h => ?_) (fun h => ?_) <;> try simp only [lensB, midL_len, mkL_length, Int.toNat_natCast, fact_byte] at h)
    | (refine nameB_cases (fun h => ?_) (fun h => ?_) <;> try simp only [bne_iff_ne, ne_eq, bne_eq_false_iff_eq, beq_iff_eq, beq_eq_false_iff_ne, Bool.not_eq_true', Bool.not_eq_false', Bool.or_eq_true, Bool.or_eq_false_iff, lensB, midL_len, mkL_length, Int.toNat_natCast, fact_byte] at h)
    | refine splitB_true ?_
    | refine splitB_false ?_
    | (refine splitB_intro (fun h => ?_) (fun h => ?_) <;> subst h)
    | refine draw_text (by kernel_rfl) (by kernel_rfl) (by kernel_rfl) ?_
    | refine both_intro ?_ ?_
    | refine eitherB_l ?_
    | exact True.intro
    | (show Go.Ab.CallA _ _ _ _ _ _ _; first
        | refine Call0 (c_impl_GoodGroup g hok hw) rfl rfl ?_
        | refine Call0 (c_impl_Group_isRep g r hw) rfl rfl ?_
        | refine CallF (c_impl_copyGroup g hw) rfl rfl rfl (Nat.le_of_ble_eq_true rfl) ?_
        | refine CallF (c_impl_copyEntries l.Log (copy_log hw hl2)) rfl rfl rfl (Nat.le_of_ble_eq_true rfl) ?_)
    | (show Go.Ab.CallD _ _ _ _ _ _ _; first
        | refine CallD0 (c_impl_GoodGroup g hok hw) rfl rfl rfl ?_
        | refine CallD0 (c_impl_Group_isRep g r hw) rfl rfl rfl ?_
        | refine CallDF (c_impl_copyGroup g hw) rfl rfl ⟨rfl, rfl⟩ ?_
        | refine CallDF (c_impl_copyEntries l.Log (copy_log hw hl2)) rfl rfl ⟨rfl, rfl⟩ ?_)
    | refine ix_map_at hx ?_
    | refine ix_map_at hy ?_
    | refine sl_pre (by omega) (fun _ => rfl) ?_
    | refine sl_suf (by omega) (fun _ => rfl) ?_
    | (refine ix_map2 hx (by omega) (by (try simp only [List.length_take]); omega) (fun y hy => ?_); try simp only [Int.toNat_natCast] at hy)
    | (refine ix_map (by omega) (by (try simp only [List.length_take]); omega) (fun x hx => ?_); try simp only [Int.toNat_natCast] at hx)
    | refine side_and (side_of (by first | (and_intros <;> first | exact Nat.le_of_ble_eq_true rfl | rfl | omega | (simp only [lensB, lensC, List.length_replicate, midL_len, mkL_length]; omega) | exact bytes_ok (Nat.le_of_ble_eq_true rfl) (by omega) (by simp only [lensB, lensC, List.length_replicate, midL_len, mkL_length]; omega) | exact bytes_okN (Nat.le_of_ble_eq_true rfl) (by simp only [lensB, lensC, List.length_replicate, midL_len, mkL_length]; omega)) | fail)) ?_
    | refine nilB_intro (fun h => ?_) ?_
    | refine side_and (side_of (show Go.Ab.structOk _ _ = true by kernel_rfl)) ?_
    | refine side_and (side_of (map_len (fun _ => rfl))) ?_
    | refine side_and (side_of (map_one (fun _ => rfl) _)) ?_
    | refine side_and ?_ ?_
    | refine LoadK_of rfl rfl ?_
    | refine LoadD_cel rfl rfl rfl rfl ?_
    | refine LoadD_of rfl ?_
    | refine StoreD_of rfl rfl rfl ?_
    | refine AppD_of rfl (by and_intros <;> first | rfl | decide) (by simp only [lensC]; first | (refine ⟨by omega, ?_⟩; refine Nat.le_trans (Nat.mul_le_mul_left _ (show _ ≤ 512 by decide)) ?_; omega) | fail) ?_
    | refine AppN_of rfl rfl (by and_intros <;> rfl) (by simp only [lensC]; first | (refine ⟨by omega, ?_⟩; refine Nat.le_trans (Nat.mul_le_mul_left _ (show _ ≤ 512 by decide)) ?_; omega) | fail) ?_
    | (show False; omega)
  all_goals
    (try have hyu := upAt_of hy)
    conv => whnf
    first
    | (have h0 : okCopy g r = true := copy_yes (upI (by assumption) (by assumption) (hyu.trans (by assumption))) (by assumption) (by assumption); rw [h0, copyR_yes h0]; exact OutA_deep rfl rfl rfl ⟨⟨congrArg (fun e => some (AObj.mk _ _ _ e)) (setRep_cells (f := copyF g) hy (copy_cells hl2 rfl)), rfl⟩, trivial⟩ rfl)
    | (have h0 : okCopy g r = false := copy_no (by first | exact .inl (upI_no (.inl (by assumption))) | exact .inl (upI_no (.inr (.inl (by assumption)))) | exact .inl (upI_no (.inr (.inr (hyu.trans (by assumption))))) | exact .inr (.inl (by assumption)) | exact .inr (.inr (by assumption))); rw [h0, copyR_no h0]; refine OutA_nilB 16 1 90 3 0 rfl rfl rfl (by decide) ?_; refine OutA_prom [(1, ReplicaT.shp)] ⟨⟨_, _, _, rfl, prom_nil⟩, trivial⟩ ?_; (conv => whnf); exact OutA_deep rfl rfl rfl ⟨⟨rfl, rfl⟩, trivial⟩ rfl)
theorem c_spec_l1LeastG (a b : Int) : PC Tryz.prog false 139 [.int .i64 a, .int .i64 b] (.int .i64 (if a < b then a else b)) [] := by
  refine pc_at Tryz.func139 rfl (by kernel_rfl) 10 [.tmp 4] rfl rfl ?_
  repeat' (conv => whnf); first
    | refine nameB_true ?_
    | refine nameB_false ?_
    | refine nameB_yes (by assumption) ?_
    | refine nameB_no (by assumption) ?_
    | refine nameB_dyes (by assumption) ?_
    | refine nameB_dno (by assumption) ?_
    | (refine nameB_dec (fun h => ?_) (fun h => ?_) <;> try simp only [lensB, midL_len, mkL_length, Int.toNat_natCast, fact_byte] at h)
    | (refine nameB_cases (fun h => ?_) (fun h => ?_) <;> try simp only [bne_iff_ne, ne_eq, bne_eq_false_iff_eq, beq_iff_eq, beq_eq_false_iff_ne, Bool.not_eq_true', Bool.not_eq_false', Bool.or_eq_true, Bool.or_eq_false_iff, lensB, midL_len, mkL_length, Int.toNat_natCast, fact_byte] at h)
    | refine splitB_true ?_
    | refine splitB_false ?_
    | (refine splitB_intro (fun h => ?_) (fun h => ?_) <;> subst h)
    | refine draw_text (by kernel_rfl) (by kernel_rfl) (by kernel_rfl) ?_
    | refine both_intro ?_ ?_
    | refine eitherB_l ?_
    | exact True.intro
    | refine ix_map_at hx ?_
    | refine ix_map_at hy ?_
    | refine sl_pre (by omega) (fun _ => rfl) ?_
    | refine sl_suf (by omega) (fun _ => rfl) ?_
    | (refine ix_map2 hx (by omega) (by (try simp only [List.length_take]); omega) (fun y hy => ?_); try simp only [Int.toNat_natCast] at hy)
    | (refine ix_map (by omega) (by (try simp only [List.length_take]); omega) (fun x hx => ?_); try simp only [Int.toNat_natCast] at hx)
    | refine side_and (side_of (by first | (and_intros <;> first | exact Nat.le_of_ble_eq_true rfl | rfl | omega | (simp only [lensB, lensC, List.length_replicate, midL_len, mkL_length]; omega) | exact bytes_ok (Nat.le_of_ble_eq_true rfl) (by omega) (by simp only [lensB, lensC, List.length_replicate, midL_len, mkL_length]; omega) | exact bytes_okN (Nat.le_of_ble_eq_true rfl) (by simp only [lensB, lensC, List.length_replicate, midL_len, mkL_length]; omega)) | fail)) ?_
    | refine nilB_intro (fun h => ?_) ?_
    | refine side_and (side_of (show Go.Ab.structOk _ _ = true by kernel_rfl)) ?_
    | refine side_and (side_of (map_len (fun _ => rfl))) ?_
    | refine side_and (side_of (map_one (fun _ => rfl) _)) ?_
    | refine side_and ?_ ?_
    | refine LoadK_of rfl rfl ?_
    | refine LoadD_cel rfl rfl rfl rfl ?_
    | refine LoadD_of rfl ?_
    | refine StoreD_of rfl rfl rfl ?_
    | refine AppD_of rfl (by and_intros <;> first | rfl | decide) (by simp only [lensC]; first | (refine ⟨by omega, ?_⟩; refine Nat.le_trans (Nat.mul_le_mul_left _ (show _ ≤ 512 by decide)) ?_; omega) | fail) ?_
    | refine AppN_of rfl rfl (by and_intros <;> rfl) (by simp only [lensC]; first | (refine ⟨by omega, ?_⟩; refine Nat.le_trans (Nat.mul_le_mul_left _ (show _ ≤ 512 by decide)) ?_; omega) | fail) ?_
    | (show False; omega)
  all_goals
    conv => whnf
    refine OutA_plain rfl rfl ?_
    first
    | exact congrArg (AV.int .i64) (if_pos (by assumption)).symm
    | exact congrArg (AV.int .i64) (if_neg (by assumption)).symm
theorem c_spec_l1MostG (a b : Int) : PC Tryz.prog false 140 [.int .i64 a, .int .i64 b] (.int .i64 (if a > b then a else b)) [] := by
  refine pc_at Tryz.func140 rfl (by kernel_rfl) 10 [.tmp 4] rfl rfl ?_
  repeat' (conv => whnf); first
    | refine nameB_true ?_
    | refine nameB_false ?_
    | refine nameB_yes (by assumption) ?_
    | refine nameB_no (by assumption) ?_
    | refine nameB_dyes (by assumption) ?_
    | refine nameB_dno (by assumption) ?_
    | (refine nameB_dec (fun h => ?_) (fun h => ?_) <;> try simp only [lensB, midL_len, mkL_length, Int.toNat_natCast, fact_byte] at h)
    | (refine nameB_cases (fun h => ?_) (fun h => ?_) <;> try simp only [bne_iff_ne, ne_eq, bne_eq_false_iff_eq, beq_iff_eq, beq_eq_false_iff_ne, Bool.not_eq_true', Bool.not_eq_false', Bool.or_eq_true, Bool.or_eq_false_iff, lensB, midL_len, mkL_length, Int.toNat_natCast, fact_byte] at h)
    | refine splitB_true ?_
    | refine splitB_false ?_
    | (refine splitB_intro (fun h => ?_) (fun h => ?_) <;> subst h)
    | refine draw_text (by kernel_rfl) (by kernel_rfl) (by kernel_rfl) ?_
    | refine both_intro ?_ ?_
    | refine eitherB_l ?_
    | exact True.intro
    | refine ix_map_at hx ?_
    | refine ix_map_at hy ?_
    | refine sl_pre (by omega) (fun _ => rfl) ?_
    | refine sl_suf (by omega) (fun _ => rfl) ?_
    | (refine ix_map2 hx (by omega) (by (try simp only [List.length_take]); omega) (fun y hy => ?_); try simp only [Int.toNat_natCast] at hy)
    | (refine ix_map (by omega) (by (try simp only [List.length_take]); omega) (fun x hx => ?_); try simp only [Int.toNat_natCast] at hx)
    | refine side_and (side_of (by first | (and_intros <;> first | exact Nat.le_of_ble_eq_true rfl | rfl | omega | (simp only [lensB, lensC, List.length_replicate, midL_len, mkL_length]; omega) | exact bytes_ok (Nat.le_of_ble_eq_true rfl) (by omega) (by simp only [lensB, lensC, List.length_replicate, midL_len, mkL_length]; omega) | exact bytes_okN (Nat.le_of_ble_eq_true rfl) (by simp only [lensB, lensC, List.length_replicate, midL_len, mkL_length]; omega)) | fail)) ?_
    | refine nilB_intro (fun h => ?_) ?_
    | refine side_and (side_of (show Go.Ab.structOk _ _ = true by kernel_rfl)) ?_
    | refine side_and (side_of (map_len (fun _ => rfl))) ?_
    | refine side_and (side_of (map_one (fun _ => rfl) _)) ?_
    | refine side_and ?_ ?_
    | refine LoadK_of rfl rfl ?_
    | refine LoadD_cel rfl rfl rfl rfl ?_
    | refine LoadD_of rfl ?_
    | refine StoreD_of rfl rfl rfl ?_
    | refine AppD_of rfl (by and_intros <;> first | rfl | decide) (by simp only [lensC]; first | (refine ⟨by omega, ?_⟩; refine Nat.le_trans (Nat.mul_le_mul_left _ (show _ ≤ 512 by decide)) ?_; omega) | fail) ?_
    | refine AppN_of rfl rfl (by and_intros <;> rfl) (by simp only [lensC]; first | (refine ⟨by omega, ?_⟩; refine Nat.le_trans (Nat.mul_le_mul_left _ (show _ ≤ 512 by decide)) ?_; omega) | fail) ?_
    | (show False; omega)
  all_goals
    conv => whnf
    refine OutA_plain rfl rfl ?_
    first
    | exact congrArg (AV.int .i64) (if_pos (by assumption)).symm
    | exact congrArg (AV.int .i64) (if_neg (by assumption)).symm
theorem least_most {a b n : Int} : (if n < (if a > b then a else b) then n else (if a > b then a else b)) = mn (mx b a) n := by
  unfold mn mx
  by_cases h1 : a > b
  · rw [if_pos h1]
  · rw [if_neg h1]
theorem copy_cellsS {g : GroupT} {y l : ReplicaT} {n : Int} (hl : g.Reps[g.Lead.toNat]? = some l) (hn : n = (if ((l.Log.map EntryT.cells).length : Int) < (if y.Sure > l.Sure then y.Sure else l.Sure) then ((l.Log.map EntryT.cells).length : Int) else (if y.Sure > l.Sure then y.Sure else l.Sure))) : [.bool true, .sl (l.Log.map EntryT.cells), .int .i64 n] = (copyF g y).cells :=
  copy_cells hl (hn.trans least_most)
theorem c_spec_CopyTo (g : GroupT) (r : Int) (hok : g.ok) (hw : GB g) : PC Tryz.prog true 92 [.agg g.cells, .int .i64 r] (.tup [.agg (copyR g r).cells, .bool (okCopy g r)]) [] := by
  have hl := reps_len hw
  refine pc_at Tryz.func92 rfl (by kernel_rfl) 58 [.cell 4 38, .tmp 5] rfl rfl ?_
  repeat' (conv => whnf); first
    | (show Go.Ab.drawA _ _ _ _ _; refine draw_tail 22 (by kernel_rfl) (by kernel_rfl) (by kernel_rfl) ?_)
    | refine ix_re (f := ReplicaT.cells) (xs := g.Reps) (n := g.Lead) (okLead_lt (g := g) (okUp_g' (r := r) (b := true) (by assumption)) (by assumption)).1 (by assumption) ?_
    | refine ix_as (f := ReplicaT.cells) (n := g.Lead) (m := g.Lead.toNat) (by have h9 := okLead_lt (g := g) (okUp_g' (r := r) (b := true) (by assumption)) (by assumption); omega) (by have h9 := okLead_lt (g := g) (okUp_g' (r := r) (b := true) (by assumption)) (by assumption); omega) (fun l hl2 => ?_)
    | refine ix_as (f := ReplicaT.cells) (n := r) (m := r.toNat) (by have h9 := okUp_lt (g := g) (r := r) (b := true) (by assumption); omega) (by have h9 := okUp_lt (g := g) (r := r) (b := true) (by assumption); omega) (fun y hy => ?_)
    | refine nameB_self (b := l.Up) ?_
    | refine nameB_self (b := y.Up) ?_
    | exact side_of (okUp_side (b := true) (by assumption))
    | refine ix_ownat (f := ReplicaT.cells) (xs := g.Reps) hy ?_
    | (refine nameB_cases (b := okUp g r true) (fun h => ?_) (fun h => ?_))
    | refine nameB_true ?_
    | refine nameB_false ?_
    | refine nameB_yes (by assumption) ?_
    | refine nameB_no (by assumption) ?_
    | refine nameB_dyes (by assumption) ?_
    | refine nameB_dno (by assumption) ?_
    | (refine nameB_dec (fun h => ?_) (fun h => ?_) <;> try simp only [lensB, midL_len, mkL_length, Int.toNat_natCast, fact_byte] at h)
    | (refine nameB_cases (fun h => ?_) (fun h => ?_) <;> try simp only [bne_iff_ne, ne_eq, bne_eq_false_iff_eq, beq_iff_eq, beq_eq_false_iff_ne, Bool.not_eq_true', Bool.not_eq_false', Bool.or_eq_true, Bool.or_eq_false_iff, lensB, midL_len, mkL_length, Int.toNat_natCast, fact_byte] at h)
    | refine splitB_true ?_
    | refine splitB_false ?_
    | (refine splitB_intro (fun h => ?_) (fun h => ?_) <;> subst h)
    | refine draw_text (by kernel_rfl) (by kernel_rfl) (by kernel_rfl) ?_
    | refine both_intro ?_ ?_
    | refine eitherB_l ?_
    | exact True.intro
    | (show Go.Ab.CallA _ _ _ _ _ _ _; first
        | refine Call0 (c_spec_l9Up g r true hok hw) rfl rfl ?_
        | refine Call0 (c_spec_l1LeastG ..) rfl rfl ?_
        | refine Call0 (c_spec_l1MostG ..) rfl rfl ?_
        | refine CallT (c_spec_l9Own g hw) rfl rfl rfl rfl (Nat.le_of_ble_eq_true rfl) ?_
        | refine CallT (c_spec_l9OwnLog l.Log (copy_log hw hl2)) rfl rfl rfl rfl (Nat.le_of_ble_eq_true rfl) ?_)
    | (show Go.Ab.CallD _ _ _ _ _ _ _; first
        | refine CallD0 (c_spec_l9Up g r true hok hw) rfl rfl rfl ?_
        | refine CallD0 (c_spec_l1LeastG ..) rfl rfl rfl ?_
        | refine CallD0 (c_spec_l1MostG ..) rfl rfl rfl ?_
        | refine CallDT (c_spec_l9Own g hw) rfl rfl rfl ⟨rfl, rfl⟩ ?_
        | refine CallDT (c_spec_l9OwnLog l.Log (copy_log hw hl2)) rfl rfl rfl ⟨rfl, rfl⟩ ?_)
    | refine ix_map_at hx ?_
    | refine ix_map_at hy ?_
    | refine sl_pre (by omega) (fun _ => rfl) ?_
    | refine sl_suf (by omega) (fun _ => rfl) ?_
    | (refine ix_map2 hx (by omega) (by (try simp only [List.length_take]); omega) (fun y hy => ?_); try simp only [Int.toNat_natCast] at hy)
    | (refine ix_map (by omega) (by (try simp only [List.length_take]); omega) (fun x hx => ?_); try simp only [Int.toNat_natCast] at hx)
    | refine side_and (side_of (by first | (and_intros <;> first | exact Nat.le_of_ble_eq_true rfl | rfl | omega | (simp only [lensB, lensC, List.length_replicate, midL_len, mkL_length]; omega) | exact bytes_ok (Nat.le_of_ble_eq_true rfl) (by omega) (by simp only [lensB, lensC, List.length_replicate, midL_len, mkL_length]; omega) | exact bytes_okN (Nat.le_of_ble_eq_true rfl) (by simp only [lensB, lensC, List.length_replicate, midL_len, mkL_length]; omega)) | fail)) ?_
    | refine nilB_intro (fun h => ?_) ?_
    | refine side_and (side_of (show Go.Ab.structOk _ _ = true by kernel_rfl)) ?_
    | refine side_and (side_of (map_len (fun _ => rfl))) ?_
    | refine side_and (side_of (map_one (fun _ => rfl) _)) ?_
    | refine side_and ?_ ?_
    | refine LoadK_of rfl rfl ?_
    | refine LoadD_cel rfl rfl rfl rfl ?_
    | refine LoadD_of rfl ?_
    | refine StoreD_of rfl rfl rfl ?_
    | refine AppD_of rfl (by and_intros <;> first | rfl | decide) (by simp only [lensC]; first | (refine ⟨by omega, ?_⟩; refine Nat.le_trans (Nat.mul_le_mul_left _ (show _ ≤ 512 by decide)) ?_; omega) | fail) ?_
    | refine AppN_of rfl rfl (by and_intros <;> rfl) (by simp only [lensC]; first | (refine ⟨by omega, ?_⟩; refine Nat.le_trans (Nat.mul_le_mul_left _ (show _ ≤ 512 by decide)) ?_; omega) | fail) ?_
    | (show False; omega)
  all_goals
    conv => whnf
    first
    | (have h0 : okCopy g r = true := copy_yes (by assumption) (by assumption) (fun e => absurd e.symm (by assumption)); rw [h0, copyR_yes h0]; refine OutA_frz [12304] ?_; (conv => whnf); exact OutA_plain rfl rfl (congrArg (fun e => AV.tup [.agg [.sl e, .int .i64 g.Term, .int .i64 g.Lead], .bool true]) (setRep_cells (f := copyF g) hy (copy_cellsS hl2 rfl))))
    | (have h0 : okCopy g r = false := copy_no (by first | exact .inl (by assumption) | exact .inr (.inl (by assumption)) | exact .inr (.inr (Eq.symm (by assumption)))); rw [h0, copyR_no h0]; refine OutA_nilB 16 1 90 3 0 rfl rfl rfl (by decide) ?_; refine OutA_frz [1] ?_; (conv => whnf); exact OutA_plain rfl rfl rfl)
end Go.Proofs.YtfpkfnfgloonhaaGreat
