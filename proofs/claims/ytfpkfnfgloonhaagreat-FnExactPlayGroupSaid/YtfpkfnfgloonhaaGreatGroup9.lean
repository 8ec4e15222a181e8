/-
  What an election gives, and its law.
  No condition.
-/
import Derived.Test.YtfpkfnfgloonhaaGreatGroup8
import Derived.Test.YtfpkfnfgloonhaaGreatGroup7
namespace Go.Proofs.YtfpkfnfgloonhaaGreat
open Go.Ab
set_option linter.unusedSimpArgs false
set_option maxRecDepth 20000
set_option maxHeartbeats 4000000
set_option linter.unusedVariables false

def logAt (g : GroupT) (r : Int) : List EntryT := match g.Reps[r.toNat]? with | some y => y.Log | none => []
theorem logAt_of {g : GroupT} {r : Int} {y : ReplicaT} (h : g.Reps[r.toNat]? = some y) : logAt g r = y.Log := by unfold logAt; rw [h]
def votes (g : GroupT) (r : Int) (x : ReplicaT) : Bool := x.Up && !newer x.Log (logAt g r)
theorem votes_yes {g : GroupT} {r : Int} {x : ReplicaT} (h1 : x.Up = true) (h2 : newer x.Log (logAt g r) = false) : votes g r x = true := by unfold votes; rw [h1, h2]; rfl
theorem votes_no1 {g : GroupT} {r : Int} {x : ReplicaT} (h1 : x.Up = false) : votes g r x = false := by unfold votes; rw [h1]; rfl
theorem votes_no2 {g : GroupT} {r : Int} {x : ReplicaT} (h2 : newer x.Log (logAt g r) = true) : votes g r x = false := by unfold votes; rw [h2]; simp
theorem rep_len {g : GroupT} {x : ReplicaT} (hw : GB g) (h : x ∈ g.Reps) : x.Log.length ≤ 1048576 := Nat.le_trans (wL_len (w := EntryT.w)) (rep_w hw h)
theorem c_impl_ElectRep_1 (g : GroupT) (r : Int) (x y : ReplicaT) (hr : 0 ≤ r) (hy : g.Reps[r.toNat]? = some y) (hx : x.Log.length ≤ 1048576) (hw : GB g) : PC Tryz.prog false 161 [.agg x.cells, .rp g.cells, .rp [.int .i64 r]] (.bool (votes g r x)) [] := by
  have hz := rep_len hw (List.mem_of_getElem? hy)
  have he := logAt_of hy
  refine pc_at Tryz.func161 rfl (by kernel_rfl) 19 [.tmp 4] rfl rfl ?_
  repeat' (conv => whnf); first
    | refine ix_re (f := ReplicaT.cells) hr hy ?_
    | (refine nameB_cases (b := x.Up) (fun h => ?_) (fun h => ?_))
    | refine nameB_self (b := y.Up) ?_
    | (refine nameB_cases (b := newer x.Log y.Log) (fun h => ?_) (fun h => ?_))
    | refine nameB_true ?_
    | refine nameB_false ?_
    | refine nameB_yes (by assumption) ?_
    | refine nameB_no (by assumption) ?_
    | refine nameB_dyes (by assumption) ?_
    | refine nameB_dno (by assumption) ?_
    | (refine nameB_dec (fun h => ?_) (fun h => ?_) <;> try simp only [lensB, midL_len, mkL_length, Int.toNat_natCast, fact_byte] at h)
    | (refine nameB_cases (fun h => ?_) (fun h => ?_) <;> try simp only [bne_iff_ne, ne_eq, bne_eq_false_iff_eq, beq_iff_eq, beq_eq_false_iff_ne, Bool.not_eq_true', Bool.not_eq_false', Bool.or_eq_true, Bool.or_eq_false_iff, lensB, midL_len, mkL_length, Int.toNat_natCast, fact_byte] at h)
    | refine splitB_true ?_
    | refine splitB_false ?_
    | (refine splitB_intro (fun h => ?_) (fun h => ?_) <;> subst h)
    | refine draw_text (by kernel_rfl) (by kernel_rfl) (by kernel_rfl) ?_
    | refine both_intro ?_ ?_
    | refine eitherB_l ?_
    | exact True.intro
    | (show Go.Ab.CallA _ _ _ _ _ _ _; refine Call0 (c_impl_isNewer x.Log y.Log hx hz) rfl rfl ?_)
    | (show Go.Ab.CallD _ _ _ _ _ _ _; refine CallD0 (c_impl_isNewer x.Log y.Log hx hz) rfl rfl rfl ?_)
    | refine ix_map_at hx ?_
    | refine ix_map_at hy ?_
    | refine sl_pre (by omega) (fun _ => rfl) ?_
    | refine sl_suf (by omega) (fun _ => rfl) ?_
    | (refine ix_map2 hx (by omega) (by (try simp only [List.length_take]); omega) (fun y hy => ?_); try simp only [Int.toNat_natCast] at hy)
    | (refine ix_map (by omega) (by (try simp only [List.length_take]); omega) (fun x hx => ?_); try simp only [Int.toNat_natCast] at hx)
    | refine side_and (side_of (by first | (and_intros <;> first | exact Nat.le_of_ble_eq_true rfl | rfl | omega | (simp only [lensB, lensC, List.length_replicate, midL_len, mkL_length]; omega) | exact bytes_ok (Nat.le_of_ble_eq_true rfl) (by omega) (by simp only [lensB, lensC, List.length_replicate, midL_len, mkL_length]; omega) | exact bytes_okN (Nat.le_of_ble_eq_true rfl) (by simp only [lensB, lensC, List.length_replicate, midL_len, mkL_length]; omega)) | fail)) ?_
    | refine nilB_intro (fun h => ?_) ?_
    | refine side_and (side_of (show Go.Ab.structOk _ _ = true by kernel_rfl)) ?_
    | refine side_and (side_of (map_len (fun _ => rfl))) ?_
    | refine side_and (side_of (map_one (fun _ => rfl) _)) ?_
    | refine side_and ?_ ?_
    | refine LoadK_of rfl rfl ?_
    | refine LoadD_cel rfl rfl rfl rfl ?_
    | refine LoadD_of rfl ?_
    | refine StoreD_of rfl rfl rfl ?_
    | refine AppD_of rfl (by and_intros <;> first | rfl | decide) (by simp only [lensC]; first | (refine ⟨by omega, ?_⟩; refine Nat.le_trans (Nat.mul_le_mul_left _ (show _ ≤ 512 by decide)) ?_; omega) | fail) ?_
    | refine AppN_of rfl rfl (by and_intros <;> rfl) (by simp only [lensC]; first | (refine ⟨by omega, ?_⟩; refine Nat.le_trans (Nat.mul_le_mul_left _ (show _ ≤ 512 by decide)) ?_; omega) | fail) ?_
    | (show False; omega)
  all_goals
    conv => whnf
    refine OutA_plain rfl rfl ?_
    first
    | (simp_all [votes, named, AV.sub, AV.sub.subL]; done)
def okElect (g : GroupT) (r : Int) : Bool := okUp g r true && (!decide (g.Term = 200) && most g (votes g r))
def electN (g : GroupT) (r : Int) : GroupT := ⟨g.Reps, IntKind.i64.wrap (g.Term + 1), r⟩
def electR (g : GroupT) (r : Int) : GroupT := resG (okElect g r) (electN g r)
theorem electR_yes {g : GroupT} {r : Int} (h : okElect g r = true) : electR g r = ⟨g.Reps, IntKind.i64.wrap (g.Term + 1), r⟩ := by rw [electR, resG_yes h]; rfl
theorem electR_no {g : GroupT} {r : Int} (h : okElect g r = false) : electR g r = ⟨[], 0, 0⟩ := by rw [electR, resG_no h]; rfl
theorem elect_yes {g : GroupT} {r : Int} (h1 : okUp g r true = true) (h2 : ¬ g.Term = 200) (h3 : most g (votes g r) = true) : okElect g r = true := by unfold okElect; rw [h1, h3, decide_eq_false h2]; rfl
theorem elect_no {g : GroupT} {r : Int} (h : okUp g r true = false ∨ g.Term = 200 ∨ most g (votes g r) = false) : okElect g r = false := by
  unfold okElect
  rcases h with h | h | h
  · rw [h]; rfl
  · rw [decide_eq_true h]; simp
  · rw [h]; simp
theorem c_impl_ElectRep (g : GroupT) (r : Int) (hok : g.ok) (hw : GB g) : PC Tryz.prog false 123 [.agg g.cells, .int .i64 r] (.tup [.agg [.own 0, .int .i64 (electR g r).Term, .int .i64 (electR g r).Lead], .bool (okElect g r)]) [⟨.deep ReplicaT.shp, 90, 3, (electR g r).Reps.map ReplicaT.cells⟩] := by
  have hl := reps_len hw
  refine pc_at Tryz.func123 rfl (by kernel_rfl) 45 [.cell 4 38, .tmp 5] rfl rfl ?_
  repeat' (conv => whnf); first
    | refine ix_as (f := ReplicaT.cells) (m := r.toNat) (by have h9 := isRep_lt (g := g) (n := r) (by assumption); omega) (by have h9 := isRep_lt (g := g) (n := r) (by assumption); omega) (fun y hy => ?_)
    | refine nameB_self (b := y.Up) ?_
    | (refine nameB_cases (b := okGroup g) (fun h => ?_) (fun h => ?_))
    | (refine nameB_cases (b := isRep g r) (fun h => ?_) (fun h => ?_))
    | (refine nameB_cases (b := y.Up) (fun h => ?_) (fun h => ?_))
    | (refine nameB_cases (b := most g (votes g r)) (fun h => ?_) (fun h => ?_))
    | refine nameB_true ?_
    | refine nameB_false ?_
    | refine nameB_yes (by assumption) ?_
    | refine nameB_no (by assumption) ?_
    | refine nameB_dyes (by assumption) ?_
    | refine nameB_dno (by assumption) ?_
    | (refine nameB_dec (fun h => ?_) (fun h => ?_) <;> try simp only [lensB, midL_len, mkL_length, Int.toNat_natCast, fact_byte] at h)
    | (refine nameB_cases (fun h => ?_) (fun h => ?_) <;> try simp only [bne_iff_ne, ne_eq, bne_eq_false_iff_eq, beq_iff_eq, beq_eq_false_iff_ne, Bool.not_eq_true', Bool.not_eq_false', Bool.or_eq_true, Bool.or_eq_false_iff, lensB, midL_len, mkL_length, Int.toNat_natCast, fact_byte] at h)
    | refine splitB_true ?_
    | refine splitB_false ?_
    | (refine splitB_intro (fun h => ?_) (fun h => ?_) <;> subst h)
    | refine draw_text (by kernel_rfl) (by kernel_rfl) (by kernel_rfl) ?_
    | refine both_intro ?_ ?_
    | refine eitherB_l ?_
    | exact True.intro
    | (show Go.Ab.CallA _ _ _ _ _ _ _; first
        | refine Call0 (c_impl_GoodGroup g hok hw) rfl rfl ?_
        | refine Call0 (c_impl_Group_isRep g r hw) rfl rfl ?_
        | refine CallF (c_impl_copyGroup g hw) rfl rfl rfl (Nat.le_of_ble_eq_true rfl) ?_
        | refine Call0 (c_impl_Group_isMost g 161 [.rp g.cells, .rp [.int .i64 r]] (votes g r) hw ⟨fun _ => rfl, fun _ => rfl, fun _ => rfl, fun _ => rfl, fun _ => rfl⟩ (fun x hx => c_impl_ElectRep_1 g r x y (isRep_lt (by assumption)).1 hy (rep_len hw hx) hw)) rfl rfl ?_)
    | refine ix_map_at hx ?_
    | refine ix_map_at hy ?_
    | refine sl_pre (by omega) (fun _ => rfl) ?_
    | refine sl_suf (by omega) (fun _ => rfl) ?_
    | (refine ix_map2 hx (by omega) (by (try simp only [List.length_take]); omega) (fun y hy => ?_); try simp only [Int.toNat_natCast] at hy)
    | (refine ix_map (by omega) (by (try simp only [List.length_take]); omega) (fun x hx => ?_); try simp only [Int.toNat_natCast] at hx)
    | refine side_and (side_of (by first | (and_intros <;> first | exact Nat.le_of_ble_eq_true rfl | rfl | omega | (simp only [lensB, lensC, List.length_replicate, midL_len, mkL_length]; omega) | exact bytes_ok (Nat.le_of_ble_eq_true rfl) (by omega) (by simp only [lensB, lensC, List.length_replicate, midL_len, mkL_length]; omega) | exact bytes_okN (Nat.le_of_ble_eq_true rfl) (by simp only [lensB, lensC, List.length_replicate, midL_len, mkL_length]; omega)) | fail)) ?_
    | refine nilB_intro (fun h => ?_) ?_
    | refine side_and (side_of (show Go.Ab.structOk _ _ = true by kernel_rfl)) ?_
    | refine side_and (side_of (map_len (fun _ => rfl))) ?_
    | refine side_and (side_of (map_one (fun _ => rfl) _)) ?_
    | refine side_and ?_ ?_
    | refine LoadK_of rfl rfl ?_
    | refine LoadD_cel rfl rfl rfl rfl ?_
    | refine LoadD_of rfl ?_
    | refine StoreD_of rfl rfl rfl ?_
    | refine AppD_of rfl (by and_intros <;> first | rfl | decide) (by simp only [lensC]; first | (refine ⟨by omega, ?_⟩; refine Nat.le_trans (Nat.mul_le_mul_left _ (show _ ≤ 512 by decide)) ?_; omega) | fail) ?_
    | refine AppN_of rfl rfl (by and_intros <;> rfl) (by simp only [lensC]; first | (refine ⟨by omega, ?_⟩; refine Nat.le_trans (Nat.mul_le_mul_left _ (show _ ≤ 512 by decide)) ?_; omega) | fail) ?_
    | (show False; omega)
  all_goals
    (try have hyu := upAt_of hy)
    conv => whnf
    first
    | (have h0 : okElect g r = true := elect_yes (upI (by assumption) (by assumption) (hyu.trans (by assumption))) (by assumption) (by assumption); rw [h0, electR_yes h0]; exact OutA_deep rfl rfl rfl ⟨⟨rfl, rfl⟩, trivial⟩ rfl)
    | (have h0 : okElect g r = false := elect_no (by first | exact .inl (upI_no (.inl (by assumption))) | exact .inl (upI_no (.inr (.inl (by assumption)))) | exact .inl (upI_no (.inr (.inr (hyu.trans (by assumption))))) | exact .inr (.inl (by assumption)) | exact .inr (.inr (by assumption))); rw [h0, electR_no h0]; refine OutA_nilB 32 1 90 3 0 rfl rfl rfl (by decide) ?_; refine OutA_prom [(1, ReplicaT.shp)] ⟨⟨_, _, _, rfl, prom_nil⟩, trivial⟩ ?_; (conv => whnf); exact OutA_deep rfl rfl rfl ⟨⟨rfl, rfl⟩, trivial⟩ rfl)
theorem c_spec_ElectRep_no (g : GroupT) (r : Int) (hok : g.ok) (hw : GB g) (h0 : okUp g r true = false) : PC Tryz.prog true 91 [.agg g.cells, .int .i64 r] (.tup [.agg (electR g r).cells, .bool (okElect g r)]) [] := by
  have hu := c_spec_l9Up g r true hok hw
  rw [h0] at hu
  refine pc_at Tryz.func91 rfl (by kernel_rfl) 66 [.cell 4 38, .tmp 5] rfl rfl ?_
  repeat' (conv => whnf); first
    | refine nameB_true ?_
    | refine nameB_false ?_
    | refine nameB_yes (by assumption) ?_
    | refine nameB_no (by assumption) ?_
    | refine nameB_dyes (by assumption) ?_
    | refine nameB_dno (by assumption) ?_
    | (refine nameB_dec (fun h => ?_) (fun h => ?_) <;> try simp only [lensB, midL_len, mkL_length, Int.toNat_natCast, fact_byte] at h)
    | (refine nameB_cases (fun h => ?_) (fun h => ?_) <;> try simp only [bne_iff_ne, ne_eq, bne_eq_false_iff_eq, beq_iff_eq, beq_eq_false_iff_ne, Bool.not_eq_true', Bool.not_eq_false', Bool.or_eq_true, Bool.or_eq_false_iff, lensB, midL_len, mkL_length, Int.toNat_natCast, fact_byte] at h)
    | refine splitB_true ?_
    | refine splitB_false ?_
    | (refine splitB_intro (fun h => ?_) (fun h => ?_) <;> subst h)
    | refine draw_text (by kernel_rfl) (by kernel_rfl) (by kernel_rfl) ?_
    | refine both_intro ?_ ?_
    | refine eitherB_l ?_
    | exact True.intro
    | (show Go.Ab.CallA _ _ _ _ _ _ _; refine Call0 (hu) rfl rfl ?_)
    | (show Go.Ab.CallD _ _ _ _ _ _ _; refine CallD0 (hu) rfl rfl rfl ?_)
    | refine ix_map_at hx ?_
    | refine ix_map_at hy ?_
    | refine sl_pre (by omega) (fun _ => rfl) ?_
    | refine sl_suf (by omega) (fun _ => rfl) ?_
    | (refine ix_map2 hx (by omega) (by (try simp only [List.length_take]); omega) (fun y hy => ?_); try simp only [Int.toNat_natCast] at hy)
    | (refine ix_map (by omega) (by (try simp only [List.length_take]); omega) (fun x hx => ?_); try simp only [Int.toNat_natCast] at hx)
    | refine side_and (side_of (by first | (and_intros <;> first | exact Nat.le_of_ble_eq_true rfl | rfl | omega | (simp only [lensB, lensC, List.length_replicate, midL_len, mkL_length]; omega) | exact bytes_ok (Nat.le_of_ble_eq_true rfl) (by omega) (by simp only [lensB, lensC, List.length_replicate, midL_len, mkL_length]; omega) | exact bytes_okN (Nat.le_of_ble_eq_true rfl) (by simp only [lensB, lensC, List.length_replicate, midL_len, mkL_length]; omega)) | fail)) ?_
    | refine nilB_intro (fun h => ?_) ?_
    | refine side_and (side_of (show Go.Ab.structOk _ _ = true by kernel_rfl)) ?_
    | refine side_and (side_of (map_len (fun _ => rfl))) ?_
    | refine side_and (side_of (map_one (fun _ => rfl) _)) ?_
    | refine side_and ?_ ?_
    | refine LoadK_of rfl rfl ?_
    | refine LoadD_cel rfl rfl rfl rfl ?_
    | refine LoadD_of rfl ?_
    | refine StoreD_of rfl rfl rfl ?_
    | refine AppD_of rfl (by and_intros <;> first | rfl | decide) (by simp only [lensC]; first | (refine ⟨by omega, ?_⟩; refine Nat.le_trans (Nat.mul_le_mul_left _ (show _ ≤ 512 by decide)) ?_; omega) | fail) ?_
    | refine AppN_of rfl rfl (by and_intros <;> rfl) (by simp only [lensC]; first | (refine ⟨by omega, ?_⟩; refine Nat.le_trans (Nat.mul_le_mul_left _ (show _ ≤ 512 by decide)) ?_; omega) | fail) ?_
    | (show False; omega)
  all_goals
    conv => whnf
    (have h0 : okElect g r = false := elect_no (.inl h0); rw [h0, electR_no h0]; refine OutA_nilB 16 1 90 3 0 rfl rfl rfl (by decide) ?_; refine OutA_frz [1] ?_; (conv => whnf); exact OutA_plain rfl rfl rfl)
theorem c_spec_ElectRep_up (g : GroupT) (r : Int) (y : ReplicaT) (hok : g.ok) (hw : GB g) (h0 : okUp g r true = true) (hr : 0 ≤ r) (hy : g.Reps[r.toNat]? = some y) : PC Tryz.prog true 91 [.agg g.cells, .int .i64 r] (.tup [.agg (electR g r).cells, .bool (okElect g r)]) [] := by
  have hl := reps_len hw
  have hz := rep_len hw (List.mem_of_getElem? hy)
  have he := logAt_of hy
  have hu := c_spec_l9Up g r true hok hw
  rw [h0] at hu
  refine pc_at Tryz.func91 rfl (by kernel_rfl) 66 [.cell 4 38, .tmp 5] rfl rfl ?_
  repeat' (conv => whnf); first
    | refine ix_re (f := ReplicaT.cells) hr hy ?_
    | refine nameB_self (b := y.Up) ?_
    | (refine nameB_cases (b := x.Up) (fun h => ?_) (fun h => ?_))
    | (refine nameB_cases (b := newer x.Log y.Log) (fun h => ?_) (fun h => ?_))
    | refine nameB_true ?_
    | refine nameB_false ?_
    | refine nameB_yes (by assumption) ?_
    | refine nameB_no (by assumption) ?_
    | refine nameB_dyes (by assumption) ?_
    | refine nameB_dno (by assumption) ?_
    | (refine nameB_dec (fun h => ?_) (fun h => ?_) <;> try simp only [lensB, midL_len, mkL_length, Int.toNat_natCast, fact_byte] at h)
    | (refine nameB_cases (fun h => ?_) (fun h => ?_) <;> try simp only [bne_iff_ne, ne_eq, bne_eq_false_iff_eq, beq_iff_eq, beq_eq_false_iff_ne, Bool.not_eq_true', Bool.not_eq_false', Bool.or_eq_true, Bool.or_eq_false_iff, lensB, midL_len, mkL_length, Int.toNat_natCast, fact_byte] at h)
    | refine splitB_true ?_
    | refine splitB_false ?_
    | (refine splitB_intro (fun h => ?_) (fun h => ?_) <;> subst h)
    | refine draw_text (by kernel_rfl) (by kernel_rfl) (by kernel_rfl) ?_
    | refine both_intro ?_ ?_
    | refine eitherB_l ?_
    | exact True.intro
    | (show Go.Ab.Loop _ _ _; (refine Loop_at [1, 2, 4] [0, 16] (Nat) (fun k => k ≤ g.Reps.length) (fun k => [(6, .int .i64 (cntR (votes g r) (g.Reps.take k) : Nat)), (7, .int .i64 (k : Nat))]) (fun k => []) (fun k => g.Reps.length - k) 0 ⟨by first | first | rfl | exact congrArg (AV.int .i64) (cntR_inc hl hx (votes_yes (by assumption) (he ▸ (by assumption)))) | exact congrArg (fun n : Nat => AV.int .i64 (n : Int)) (cntR_no hx (votes_no1 (by assumption))).symm | exact congrArg (fun n : Nat => AV.int .i64 (n : Int)) (cntR_no hx (votes_no2 (he ▸ (by assumption)))).symm | rfl | fail, by first | first | rfl | exact congrArg (AV.int .i64) (cntR_inc hl hx (votes_yes (by assumption) (he ▸ (by assumption)))) | exact congrArg (fun n : Nat => AV.int .i64 (n : Int)) (cntR_no hx (votes_no1 (by assumption))).symm | exact congrArg (fun n : Nat => AV.int .i64 (n : Int)) (cntR_no hx (votes_no2 (he ▸ (by assumption)))).symm | rfl | fail, trivial⟩ trivial (by (try dsimp only); first | (exact Nat.zero_le _) | fail) ?_; (conv => whnf); refine side_and (side_of (by first | exact fun k => rfl | exact fun k => by simp [headOk, closedE, closedO, closedL, AV.closed, hcap.closed, hasId, AObj.box, BK.ofB])) ?_; rintro k hT; try dsimp only at hT))
    | (show Go.Ab.Again _ _ _ _ _ _ _ _ _ _ _; refine Again_of (k + 1) ⟨by first | first | rfl | exact congrArg (AV.int .i64) (cntR_inc hl hx (votes_yes (by assumption) (he ▸ (by assumption)))) | exact congrArg (fun n : Nat => AV.int .i64 (n : Int)) (cntR_no hx (votes_no1 (by assumption))).symm | exact congrArg (fun n : Nat => AV.int .i64 (n : Int)) (cntR_no hx (votes_no2 (he ▸ (by assumption)))).symm | rfl | fail, by first | rfl | exact i64_next (by omega) | first | rfl | exact congrArg (AV.int .i64) (cntR_inc hl hx (votes_yes (by assumption) (he ▸ (by assumption)))) | exact congrArg (fun n : Nat => AV.int .i64 (n : Int)) (cntR_no hx (votes_no1 (by assumption))).symm | exact congrArg (fun n : Nat => AV.int .i64 (n : Int)) (cntR_no hx (votes_no2 (he ▸ (by assumption)))).symm | fail, trivial⟩ trivial (by first | (and_intros <;> first | rfl | trivial) | fail) (by first | (and_intros <;> first | rfl | trivial) | fail) rfl rfl rfl (by (try dsimp only); first | ((show k + 1 ≤ _; omega)) | fail) (show _ < _ by (try dsimp only); omega))
    | (show Go.Ab.CallA _ _ _ _ _ _ _; first
        | refine Call0 (hu) rfl rfl ?_
        | refine CallT (c_spec_l9Own g hw) rfl rfl rfl rfl (Nat.le_of_ble_eq_true rfl) ?_
        | refine Call0 (c_spec_l9Later x.Log y.Log (rep_len hw (List.mem_of_getElem? hx)) hz) rfl rfl ?_)
    | (show Go.Ab.CallD _ _ _ _ _ _ _; first
        | refine CallD0 (hu) rfl rfl rfl ?_
        | refine CallDT (c_spec_l9Own g hw) rfl rfl rfl ⟨rfl, rfl⟩ ?_
        | refine CallD0 (c_spec_l9Later x.Log y.Log (rep_len hw (List.mem_of_getElem? hx)) hz) rfl rfl rfl ?_)
    | refine ix_map_at hx ?_
    | refine ix_map_at hy ?_
    | refine sl_pre (by omega) (fun _ => rfl) ?_
    | refine sl_suf (by omega) (fun _ => rfl) ?_
    | (refine ix_map2 hx (by omega) (by (try simp only [List.length_take]); omega) (fun y hy => ?_); try simp only [Int.toNat_natCast] at hy)
    | (refine ix_map (by omega) (by (try simp only [List.length_take]); omega) (fun x hx => ?_); try simp only [Int.toNat_natCast] at hx)
    | refine side_and (side_of (by first | (and_intros <;> first | exact Nat.le_of_ble_eq_true rfl | rfl | omega | (simp only [lensB, lensC, List.length_replicate, midL_len, mkL_length]; omega) | exact bytes_ok (Nat.le_of_ble_eq_true rfl) (by omega) (by simp only [lensB, lensC, List.length_replicate, midL_len, mkL_length]; omega) | exact bytes_okN (Nat.le_of_ble_eq_true rfl) (by simp only [lensB, lensC, List.length_replicate, midL_len, mkL_length]; omega)) | fail)) ?_
    | refine nilB_intro (fun h => ?_) ?_
    | refine side_and (side_of (show Go.Ab.structOk _ _ = true by kernel_rfl)) ?_
    | refine side_and (side_of (map_len (fun _ => rfl))) ?_
    | refine side_and (side_of (map_one (fun _ => rfl) _)) ?_
    | refine side_and ?_ ?_
    | refine LoadK_of rfl rfl ?_
    | refine LoadD_cel rfl rfl rfl rfl ?_
    | refine LoadD_of rfl ?_
    | refine StoreD_of rfl rfl rfl ?_
    | refine AppD_of rfl (by and_intros <;> first | rfl | decide) (by simp only [lensC]; first | (refine ⟨by omega, ?_⟩; refine Nat.le_trans (Nat.mul_le_mul_left _ (show _ ≤ 512 by decide)) ?_; omega) | fail) ?_
    | refine AppN_of rfl rfl (by and_intros <;> rfl) (by simp only [lensC]; first | (refine ⟨by omega, ?_⟩; refine Nat.le_trans (Nat.mul_le_mul_left _ (show _ ≤ 512 by decide)) ?_; omega) | fail) ?_
    | (show False; omega)
  all_goals
    conv => whnf
    first
    | (have h0 : okElect g r = false := elect_no (.inr (.inl (by assumption))); rw [h0, electR_no h0]; refine OutA_nilB 16 1 90 3 0 rfl rfl rfl (by decide) ?_; refine OutA_frz [1] ?_; (conv => whnf); exact OutA_plain rfl rfl rfl)
    | (have hm := most_of (q := votes g r) hl (by assumption); have h1 : most g (votes g r) = false := decide_eq_false (by rw [← hm]; exact Int.not_lt.2 (by assumption)); have h0 : okElect g r = false := elect_no (.inr (.inr h1)); rw [h0, electR_no h0]; refine OutA_nilB 16 1 90 3 0 rfl rfl rfl (by decide) ?_; refine OutA_frz [1] ?_; (conv => whnf); exact OutA_plain rfl rfl rfl)
    | (have hm := most_of (q := votes g r) hl (by assumption); have h1 : most g (votes g r) = true := decide_eq_true (by rw [← hm]; exact Int.not_le.1 (by assumption)); have h0 : okElect g r = true := elect_yes h0 (by assumption) h1; rw [h0, electR_yes h0]; refine OutA_frz [45072] ?_; (conv => whnf); exact OutA_plain rfl rfl rfl)
theorem c_spec_ElectRep (g : GroupT) (r : Int) (hok : g.ok) (hw : GB g) : PC Tryz.prog true 91 [.agg g.cells, .int .i64 r] (.tup [.agg (electR g r).cells, .bool (okElect g r)]) [] := by
  cases h : okUp g r true with
  | false => exact c_spec_ElectRep_no g r hok hw h
  | true =>
    obtain ⟨h1, h2⟩ := okUp_lt h
    exact c_spec_ElectRep_up g r g.Reps[r.toNat] hok hw h h1 (by simp [h2])
end Go.Proofs.YtfpkfnfgloonhaaGreat
