/-
  Runs of a group: what PlayGroup gives; its law.
  No condition.
-/
import Derived.Test.YtfpkfnfgloonhaaGreatGroup21
namespace Go.Proofs.YtfpkfnfgloonhaaGreat
open Go.Ab
set_option linter.unusedSimpArgs false
set_option maxRecDepth 20000
set_option maxHeartbeats 4000000
set_option linter.unusedVariables false

def okPlayG (g : GroupT) (acts : List GroupActT) : Bool := okGroup g && decide (acts.length ≤ 200)
def playR (g : GroupT) (acts : List GroupActT) : GroupT := resG (okPlayG g acts) (playG g acts)
theorem playR_yes {g : GroupT} {acts : List GroupActT} (h1 : okGroup g = true) (h2 : ¬ (acts.length : Int) > 200) : okPlayG g acts = true ∧ playR g acts = playG g (acts.take acts.length) := by
  have e : okPlayG g acts = true := by unfold okPlayG; rw [h1, decide_eq_true (by omega)]; rfl
  exact ⟨e, by rw [playR, resG_yes e, List.take_length]⟩
theorem playR_no {g : GroupT} {acts : List GroupActT} (h : okGroup g = false ∨ (acts.length : Int) > 200) : okPlayG g acts = false ∧ playR g acts = ⟨[], 0, 0⟩ := by
  have e : okPlayG g acts = false := by
    unfold okPlayG
    rcases h with h | h
    · rw [h]; rfl
    · rw [decide_eq_false (by omega)]; simp
  exact ⟨e, by rw [playR, resG_no e]; rfl⟩
theorem take_at {α β : Type} {f : List α → β} {xs : List α} {k : Nat} (h : k ≤ xs.length) (h2 : ¬ (k : Int) < xs.length) : f (xs.take k) = f (xs.take xs.length) := by
  have : k = xs.length := by omega
  rw [this]
theorem c_spec_PlayGroup (g : GroupT) (acts : List GroupActT) (hok : g.ok) (ha : okL GroupActT.ok acts) (hw : g.w + wL GroupActT.w acts ≤ 1048576) : PC Tryz.prog true 29 [.agg g.cells, .sl (acts.map GroupActT.cells)] (.tup [.agg (playR g acts).cells, .bool (okPlayG g acts)]) [] := by
  have hb : GB g := gb_of (by omega)
  have hal : acts.length ≤ 1048576 := by have := wL_len (w := GroupActT.w) (xs := acts); omega
  have hv : okGroup g = true → ∀ k, k ≤ acts.length → (playG g (acts.take k)).ok ∧ GB (playG g (acts.take k)) := fun hg k hk => by
    have q := PG.play (PG.of hok hg (Nat.le_refl _)) ha hw k hk
    have := wL_take (w := GroupActT.w) (xs := acts) (k := k)
    exact ⟨q.ok, q.gb (by omega)⟩
  have hy' : ∀ {k : Nat} {y : GroupActT}, acts[k]? = some y → y.ok ∧ y.w ≤ 1048576 := fun h => ⟨ha.2 _ (List.mem_of_getElem? h), by have := (wL_mem (w := GroupActT.w) (List.mem_of_getElem? h)).2; omega⟩
  refine pc_at Tryz.func29 rfl (by kernel_rfl) 39 [.cell 4 38, .tmp 5] rfl rfl ?_
  repeat' (conv => whnf); first
    | (refine ix_as (f := GroupActT.cells) (m := k) rfl (by omega) (fun y hy => ?_))
    | (refine nameB_cases (b := okGroup g) (fun h => ?_) (fun h => ?_))
    | (refine nameB_self (b := y.Rec.Yes) ?_)
    | (refine nameB_cases (b := okAct (playG g (acts.take k)) y) (fun h => ?_) (fun h => ?_))
    | refine nameB_true ?_
    | refine nameB_false ?_
    | refine nameB_yes (by assumption) ?_
    | refine nameB_no (by assumption) ?_
    | refine nameB_dyes (by assumption) ?_
    | refine nameB_dno (by assumption) ?_
    | (refine nameB_dec (fun h => ?_) (fun h => ?_) <;> try simp only [lensB, midL_len, mkL_length, Int.toNat_natCast, fact_byte] at h)
    | (refine nameB_cases (fun h => ?_) (fun h => ?_) <;> try simp only [bne_iff_ne, ne_eq, bne_eq_false_iff_eq, beq_iff_eq, beq_eq_false_iff_ne, Bool.not_eq_true', Bool.not_eq_false', Bool.or_eq_true, Bool.or_eq_false_iff, lensB, midL_len, mkL_length, Int.toNat_natCast, fact_byte] at h)
    | refine splitB_true ?_
    | refine splitB_false ?_
    | (refine splitB_intro (fun h => ?_) (fun h => ?_) <;> subst h)
    | refine draw_text (by kernel_rfl) (by kernel_rfl) (by kernel_rfl) ?_
    | refine both_intro ?_ ?_
    | refine eitherB_l ?_
    | exact True.intro
    | (show Go.Ab.Loop _ _ _; (refine Loop_frz [12304] ?_; refine Loop_at [1, 4, 6] [16] (Nat) (fun k => k ≤ acts.length) (fun k => [(7, .int .i64 (k : Nat))]) (fun k => [(12320, ⟨true, 38, 3, [(playG g (acts.take k)).cells]⟩)]) (fun k => acts.length - k) 0 ⟨by first | (simp_all <;> fail) | rfl | fail, trivial⟩ ⟨by first | rfl | first | exact congrArg (fun v : GroupT => some (AObj.mk (.box) 38 3 [v.cells])) (playG_yes hy (by assumption)) | exact congrArg (fun v : GroupT => some (AObj.mk (.box) 38 3 [v.cells])) (playG_no hy (by assumption)) | fail | fail, trivial⟩ (by (try dsimp only); first | (exact Nat.zero_le _) | fail) ?_; (conv => whnf); refine side_and (side_of (by first | exact fun k => rfl | exact fun k => by simp [headOk, closedE, closedO, closedL, AV.closed, hcap.closed, hasId, AObj.box, BK.ofB])) ?_; rintro k hT; try dsimp only at hT))
    | (show Go.Ab.Again _ _ _ _ _ _ _ _ _ _ _; refine Again_of (k + 1) ⟨by first | rfl | exact i64_next (by omega) | (simp_all <;> fail) | fail, trivial⟩ ⟨by first | rfl | first | exact congrArg (fun v : GroupT => some (AObj.mk (.box) 38 3 [v.cells])) (playG_yes hy (by assumption)) | exact congrArg (fun v : GroupT => some (AObj.mk (.box) 38 3 [v.cells])) (playG_no hy (by assumption)) | fail | fail, trivial⟩ (by first | (and_intros <;> first | rfl | trivial) | fail) (by first | (and_intros <;> first | rfl | trivial) | fail) rfl rfl rfl (by (try dsimp only); first | ((show k + 1 ≤ _; omega)) | fail) (show _ < _ by (try dsimp only); omega))
    | (show Go.Ab.CallA _ _ _ _ _ _ _; first
        | refine Call0 (c_spec_GoodGroup g hok hb) rfl rfl ?_
        | refine CallT (c_spec_l9Own g hb) rfl rfl rfl rfl (Nat.le_of_ble_eq_true rfl) ?_)
    | (show Go.Ab.CallD _ _ _ _ _ _ _; first
        | refine CallDT (c_spec_l9Do (playG g (acts.take k)) y (hv (by assumption) k hT).1 (hv (by assumption) k hT).2 (hy' hy).1 (hy' hy).2) rfl rfl rfl ⟨rfl, rfl⟩ ?_
        | refine CallD0 (c_spec_GoodGroup g hok hb) rfl rfl rfl ?_
        | refine CallDT (c_spec_l9Own g hb) rfl rfl rfl ⟨rfl, rfl⟩ ?_)
    | refine ix_map_at hx ?_
    | refine ix_map_at hy ?_
    | refine sl_pre (by omega) (fun _ => rfl) ?_
    | refine sl_suf (by omega) (fun _ => rfl) ?_
    | (refine ix_map2 hx (by omega) (by (try simp only [List.length_take]); omega) (fun y hy => ?_); try simp only [Int.toNat_natCast] at hy)
    | (refine ix_map (by omega) (by (try simp only [List.length_take]); omega) (fun x hx => ?_); try simp only [Int.toNat_natCast] at hx)
    | refine side_and (side_of (by first | (and_intros <;> first | exact Nat.le_of_ble_eq_true rfl | rfl | omega | (simp only [lensB, lensC, List.length_replicate, midL_len, mkL_length]; omega) | exact bytes_ok (Nat.le_of_ble_eq_true rfl) (by omega) (by simp only [lensB, lensC, List.length_replicate, midL_len, mkL_length]; omega) | exact bytes_okN (Nat.le_of_ble_eq_true rfl) (by simp only [lensB, lensC, List.length_replicate, midL_len, mkL_length]; omega)) | fail)) ?_
    | refine nilB_intro (fun h => ?_) ?_
    | refine side_and (side_of (show Go.Ab.structOk _ _ = true by kernel_rfl)) ?_
    | refine side_and (side_of (map_len (fun _ => rfl))) ?_
    | refine side_and (side_of (map_one (fun _ => rfl) _)) ?_
    | refine side_and ?_ ?_
    | refine LoadK_of rfl rfl ?_
    | refine LoadD_cel rfl rfl rfl rfl ?_
    | refine LoadD_of rfl ?_
    | refine StoreD_of rfl rfl rfl ?_
    | refine AppD_of rfl (by and_intros <;> first | rfl | decide) (by simp only [lensC]; first | (refine ⟨by omega, ?_⟩; refine Nat.le_trans (Nat.mul_le_mul_left _ (show _ ≤ 512 by decide)) ?_; omega) | fail) ?_
    | refine AppN_of rfl rfl (by and_intros <;> rfl) (by simp only [lensC]; first | (refine ⟨by omega, ?_⟩; refine Nat.le_trans (Nat.mul_le_mul_left _ (show _ ≤ 512 by decide)) ?_; omega) | fail) ?_
    | (show False; omega)
  all_goals
    conv => whnf
    first
    | (exfalso; omega)
    | (obtain ⟨e1, e2⟩ := playR_yes (by assumption) (by assumption); rw [e1, e2]; refine OutA_plain rfl rfl ?_; exact take_at (f := fun l : List GroupActT => AV.tup [.agg (playG g l).cells, .bool true]) hT (by assumption))
    | (obtain ⟨e1, e2⟩ := playR_no (g := g) (acts := acts) (by first | exact .inl (by assumption) | exact .inr (by assumption)); rw [e1, e2]; refine OutA_nilB 16 1 90 3 0 rfl rfl rfl (by decide) ?_; refine OutA_frz [1] ?_; (conv => whnf); exact OutA_plain rfl rfl rfl)
theorem c_impl_PlayGroup (g : GroupT) (acts : List GroupActT) (hok : g.ok) (ha : okL GroupActT.ok acts) (hw : g.w + wL GroupActT.w acts ≤ 1048576) : PC Tryz.prog false 32 [.agg g.cells, .sl (acts.map GroupActT.cells)] (.tup [.agg [.own 0, .int .i64 (playR g acts).Term, .int .i64 (playR g acts).Lead], .bool (okPlayG g acts)]) [⟨.deep ReplicaT.shp, 90, 3, (playR g acts).Reps.map ReplicaT.cells⟩] := by
  have hb : GB g := gb_of (by omega)
  have hal : acts.length ≤ 1048576 := by have := wL_len (w := GroupActT.w) (xs := acts); omega
  have hv : okGroup g = true → ∀ k, k ≤ acts.length → (playG g (acts.take k)).ok ∧ GB (playG g (acts.take k)) := fun hg k hk => by
    have q := PG.play (PG.of hok hg (Nat.le_refl _)) ha hw k hk
    have := wL_take (w := GroupActT.w) (xs := acts) (k := k)
    exact ⟨q.ok, q.gb (by omega)⟩
  have hy' : ∀ {k : Nat} {y : GroupActT}, acts[k]? = some y → y.ok ∧ y.w ≤ 1048576 := fun h => ⟨ha.2 _ (List.mem_of_getElem? h), by have := (wL_mem (w := GroupActT.w) (List.mem_of_getElem? h)).2; omega⟩
  refine pc_at Tryz.func32 rfl (by kernel_rfl) 38 [.cell 4 38, .tmp 5] rfl rfl ?_
  repeat' (conv => whnf); first
    | (refine ix_as (f := GroupActT.cells) (m := k) rfl (by omega) (fun y hy => ?_))
    | (refine nameB_cases (b := okGroup g) (fun h => ?_) (fun h => ?_))
    | (refine nameB_self (b := y.Rec.Yes) ?_)
    | (refine nameB_cases (b := okAct (playG g (acts.take k)) y) (fun h => ?_) (fun h => ?_))
    | refine nameB_true ?_
    | refine nameB_false ?_
    | refine nameB_yes (by assumption) ?_
    | refine nameB_no (by assumption) ?_
    | refine nameB_dyes (by assumption) ?_
    | refine nameB_dno (by assumption) ?_
    | (refine nameB_dec (fun h => ?_) (fun h => ?_) <;> try simp only [lensB, midL_len, mkL_length, Int.toNat_natCast, fact_byte] at h)
    | (refine nameB_cases (fun h => ?_) (fun h => ?_) <;> try simp only [bne_iff_ne, ne_eq, bne_eq_false_iff_eq, beq_iff_eq, beq_eq_false_iff_ne, Bool.not_eq_true', Bool.not_eq_false', Bool.or_eq_true, Bool.or_eq_false_iff, lensB, midL_len, mkL_length, Int.toNat_natCast, fact_byte] at h)
    | refine splitB_true ?_
    | refine splitB_false ?_
    | (refine splitB_intro (fun h => ?_) (fun h => ?_) <;> subst h)
    | refine draw_text (by kernel_rfl) (by kernel_rfl) (by kernel_rfl) ?_
    | refine both_intro ?_ ?_
    | refine eitherB_l ?_
    | exact True.intro
    | (show Go.Ab.Loop _ _ _; (refine Loop_at [4, 6, 22, 23] [0, 16] (Nat) (fun k => k ≤ acts.length) (fun k => [(24, .int .i64 (k : Nat))]) (fun k => [(12320, ⟨true, 38, 3, [[.own 12304, .int .i64 (playG g (acts.take k)).Term, .int .i64 (playG g (acts.take k)).Lead]]⟩), (12304, ⟨.deep ReplicaT.shp, 90, 3, (playG g (acts.take k)).Reps.map ReplicaT.cells⟩)]) (fun k => acts.length - k) 0 ⟨by first | (simp_all <;> fail) | rfl | fail, trivial⟩ ⟨by first | rfl | first | rfl | exact congrArg (fun v : GroupT => some (AObj.mk (.box) 38 3 [[.own 12304, .int .i64 v.Term, .int .i64 v.Lead]])) (playG_yes hy (by assumption)) | exact congrArg (fun v : GroupT => some (AObj.mk (.box) 38 3 [[.own 12304, .int .i64 v.Term, .int .i64 v.Lead]])) (playG_no hy (by assumption)) | exact congrArg (fun v : GroupT => some (AObj.mk (.deep ReplicaT.shp) 90 3 (v.Reps.map ReplicaT.cells))) (playG_yes hy (by assumption)) | exact congrArg (fun v : GroupT => some (AObj.mk (.deep ReplicaT.shp) 90 3 (v.Reps.map ReplicaT.cells))) (playG_no hy (by assumption)) | fail | fail, by first | rfl | first | rfl | exact congrArg (fun v : GroupT => some (AObj.mk (.box) 38 3 [[.own 12304, .int .i64 v.Term, .int .i64 v.Lead]])) (playG_yes hy (by assumption)) | exact congrArg (fun v : GroupT => some (AObj.mk (.box) 38 3 [[.own 12304, .int .i64 v.Term, .int .i64 v.Lead]])) (playG_no hy (by assumption)) | exact congrArg (fun v : GroupT => some (AObj.mk (.deep ReplicaT.shp) 90 3 (v.Reps.map ReplicaT.cells))) (playG_yes hy (by assumption)) | exact congrArg (fun v : GroupT => some (AObj.mk (.deep ReplicaT.shp) 90 3 (v.Reps.map ReplicaT.cells))) (playG_no hy (by assumption)) | fail | fail, trivial⟩ (by (try dsimp only); first | (exact Nat.zero_le _) | fail) ?_; (conv => whnf); refine side_and (side_of (by first | exact fun k => rfl | exact fun k => by simp [headOk, closedE, closedO, closedL, AV.closed, hcap.closed, hasId, AObj.box, BK.ofB])) ?_; rintro k hT; try dsimp only at hT))
    | (show Go.Ab.Again _ _ _ _ _ _ _ _ _ _ _; first
        | refine Again_ren 28704 12304 (by decide) rfl ?_; (conv => whnf); refine Again_of (k + 1) ⟨by first | rfl | exact i64_next (by omega) | (simp_all <;> fail) | fail, trivial⟩ ⟨by first | rfl | first | rfl | exact congrArg (fun v : GroupT => some (AObj.mk (.box) 38 3 [[.own 12304, .int .i64 v.Term, .int .i64 v.Lead]])) (playG_yes hy (by assumption)) | exact congrArg (fun v : GroupT => some (AObj.mk (.box) 38 3 [[.own 12304, .int .i64 v.Term, .int .i64 v.Lead]])) (playG_no hy (by assumption)) | exact congrArg (fun v : GroupT => some (AObj.mk (.deep ReplicaT.shp) 90 3 (v.Reps.map ReplicaT.cells))) (playG_yes hy (by assumption)) | exact congrArg (fun v : GroupT => some (AObj.mk (.deep ReplicaT.shp) 90 3 (v.Reps.map ReplicaT.cells))) (playG_no hy (by assumption)) | fail | fail, by first | rfl | first | rfl | exact congrArg (fun v : GroupT => some (AObj.mk (.box) 38 3 [[.own 12304, .int .i64 v.Term, .int .i64 v.Lead]])) (playG_yes hy (by assumption)) | exact congrArg (fun v : GroupT => some (AObj.mk (.box) 38 3 [[.own 12304, .int .i64 v.Term, .int .i64 v.Lead]])) (playG_no hy (by assumption)) | exact congrArg (fun v : GroupT => some (AObj.mk (.deep ReplicaT.shp) 90 3 (v.Reps.map ReplicaT.cells))) (playG_yes hy (by assumption)) | exact congrArg (fun v : GroupT => some (AObj.mk (.deep ReplicaT.shp) 90 3 (v.Reps.map ReplicaT.cells))) (playG_no hy (by assumption)) | fail | fail, trivial⟩ (by first | (and_intros <;> first | rfl | trivial) | fail) (by first | (and_intros <;> first | rfl | trivial) | fail) rfl rfl rfl (by (try dsimp only); first | ((show k + 1 ≤ _; omega)) | fail) (show _ < _ by (try dsimp only); omega)
        | refine Again_of (k + 1) ⟨by first | rfl | exact i64_next (by omega) | (simp_all <;> fail) | fail, trivial⟩ ⟨by first | rfl | first | rfl | exact congrArg (fun v : GroupT => some (AObj.mk (.box) 38 3 [[.own 12304, .int .i64 v.Term, .int .i64 v.Lead]])) (playG_yes hy (by assumption)) | exact congrArg (fun v : GroupT => some (AObj.mk (.box) 38 3 [[.own 12304, .int .i64 v.Term, .int .i64 v.Lead]])) (playG_no hy (by assumption)) | exact congrArg (fun v : GroupT => some (AObj.mk (.deep ReplicaT.shp) 90 3 (v.Reps.map ReplicaT.cells))) (playG_yes hy (by assumption)) | exact congrArg (fun v : GroupT => some (AObj.mk (.deep ReplicaT.shp) 90 3 (v.Reps.map ReplicaT.cells))) (playG_no hy (by assumption)) | fail | fail, by first | rfl | first | rfl | exact congrArg (fun v : GroupT => some (AObj.mk (.box) 38 3 [[.own 12304, .int .i64 v.Term, .int .i64 v.Lead]])) (playG_yes hy (by assumption)) | exact congrArg (fun v : GroupT => some (AObj.mk (.box) 38 3 [[.own 12304, .int .i64 v.Term, .int .i64 v.Lead]])) (playG_no hy (by assumption)) | exact congrArg (fun v : GroupT => some (AObj.mk (.deep ReplicaT.shp) 90 3 (v.Reps.map ReplicaT.cells))) (playG_yes hy (by assumption)) | exact congrArg (fun v : GroupT => some (AObj.mk (.deep ReplicaT.shp) 90 3 (v.Reps.map ReplicaT.cells))) (playG_no hy (by assumption)) | fail | fail, trivial⟩ (by first | (and_intros <;> first | rfl | trivial) | fail) (by first | (and_intros <;> first | rfl | trivial) | fail) rfl rfl rfl (by (try dsimp only); first | ((show k + 1 ≤ _; omega)) | fail) (show _ < _ by (try dsimp only); omega))
    | (show Go.Ab.CallA _ _ _ _ _ _ _; first
        | refine Call0 (c_impl_GoodGroup g hok hb) rfl rfl ?_
        | refine CallF (c_impl_copyGroup g hb) rfl rfl rfl (Nat.le_of_ble_eq_true rfl) ?_
        | refine CallF (c_impl_doGroup (playG g (acts.take k)) y (hv (by assumption) k hT).1 (hv (by assumption) k hT).2 (hy' hy).1 (hy' hy).2) rfl rfl rfl (Nat.le_of_ble_eq_true rfl) ?_)
    | refine ix_map_at hx ?_
    | refine ix_map_at hy ?_
    | refine sl_pre (by omega) (fun _ => rfl) ?_
    | refine sl_suf (by omega) (fun _ => rfl) ?_
    | (refine ix_map2 hx (by omega) (by (try simp only [List.length_take]); omega) (fun y hy => ?_); try simp only [Int.toNat_natCast] at hy)
    | (refine ix_map (by omega) (by (try simp only [List.length_take]); omega) (fun x hx => ?_); try simp only [Int.toNat_natCast] at hx)
    | refine side_and (side_of (by first | (and_intros <;> first | exact Nat.le_of_ble_eq_true rfl | rfl | omega | (simp only [lensB, lensC, List.length_replicate, midL_len, mkL_length]; omega) | exact bytes_ok (Nat.le_of_ble_eq_true rfl) (by omega) (by simp only [lensB, lensC, List.length_replicate, midL_len, mkL_length]; omega) | exact bytes_okN (Nat.le_of_ble_eq_true rfl) (by simp only [lensB, lensC, List.length_replicate, midL_len, mkL_length]; omega)) | fail)) ?_
    | refine nilB_intro (fun h => ?_) ?_
    | refine side_and (side_of (show Go.Ab.structOk _ _ = true by kernel_rfl)) ?_
    | refine side_and (side_of (map_len (fun _ => rfl))) ?_
    | refine side_and (side_of (map_one (fun _ => rfl) _)) ?_
    | refine side_and ?_ ?_
    | refine LoadK_of rfl rfl ?_
    | refine LoadD_cel rfl rfl rfl rfl ?_
    | refine LoadD_of rfl ?_
    | refine StoreD_of rfl rfl rfl ?_
    | refine AppD_of rfl (by and_intros <;> first | rfl | decide) (by simp only [lensC]; first | (refine ⟨by omega, ?_⟩; refine Nat.le_trans (Nat.mul_le_mul_left _ (show _ ≤ 512 by decide)) ?_; omega) | fail) ?_
    | refine AppN_of rfl rfl (by and_intros <;> rfl) (by simp only [lensC]; first | (refine ⟨by omega, ?_⟩; refine Nat.le_trans (Nat.mul_le_mul_left _ (show _ ≤ 512 by decide)) ?_; omega) | fail) ?_
    | (show False; omega)
  all_goals
    conv => whnf
    first
    | (exfalso; omega)
    | (obtain ⟨e1, e2⟩ := playR_yes (by assumption) (by assumption)
       rw [e1, e2]
       have e3 : k = acts.length := by omega
       subst e3
       exact OutA_deep rfl rfl rfl ⟨⟨rfl, rfl⟩, trivial⟩ rfl)
    | (obtain ⟨e1, e2⟩ := playR_no (g := g) (acts := acts) (by first | exact .inl (by assumption) | exact .inr (by assumption)); rw [e1, e2]; refine OutA_nilB 16 1 90 3 0 rfl rfl rfl (by decide) ?_; refine OutA_prom [(1, ReplicaT.shp)] ⟨⟨_, _, _, rfl, prom_nil⟩, trivial⟩ ?_; (conv => whnf); exact OutA_deep rfl rfl rfl ⟨⟨rfl, rfl⟩, trivial⟩ rfl)
theorem playR_PG {g : GroupT} {acts : List GroupActT} (hok : g.ok) (ha : okL GroupActT.ok acts) (hw : g.w + wL GroupActT.w acts ≤ 1048576) : (playR g acts).ok ∧ (playR g acts).w ≤ 5242885 := by
  cases h : okPlayG g acts with
  | true =>
    have h1 : okGroup g = true := by unfold okPlayG at h; simp only [Bool.and_eq_true] at h; exact h.1
    have q := PG.play (PG.of hok h1 (Nat.le_refl _)) ha hw acts.length (Nat.le_refl _)
    rw [List.take_length] at q
    rw [playR, resG_yes h]
    exact ⟨q.ok, q.wt hw⟩
  | false =>
    rw [playR, resG_no h]
    exact ⟨zeroG_ok, zeroG_w⟩
theorem law_PlayGroup (a W : GroupT) (acts : List GroupActT) (b : Bool) (hok : a.ok) (ha : okL GroupActT.ok acts) (hW : W.ok) (hww : W.w ≤ 5242885)
    (hS : a.w + wL GroupActT.w acts ≤ 1048576 → PC Tryz.prog true 29 [.agg a.cells, .sl (acts.map GroupActT.cells)] (.tup [.agg W.cells, .bool b]) [])
    (hI : a.w + wL GroupActT.w acts ≤ 1048576 → PC Tryz.prog false 32 [.agg a.cells, .sl (acts.map GroupActT.cells)] (.tup [.agg [.own 0, .int .i64 W.Term, .int .i64 W.Lead], .bool b]) [⟨.deep ReplicaT.shp, 90, 3, W.Reps.map ReplicaT.cells⟩]) :
    PC Tryz.prog false 6 [.agg a.cells, .sl (acts.map GroupActT.cells)] (.bool true) [] := by
  have hm1 := GroupT.cntS_w a 1
  have hm2 := GroupT.cntS_w W 1
  have hm4 : acts.length ≤ wL GroupActT.w acts := wL_len
  have hm0 : 1 ≤ GroupT.cntS a 1 := by unfold GroupT.cntS; omega
  have hm3 := cntL_w100 (cnt := GroupActT.cnt) (w := GroupActT.w) (fun y => GroupActT.cnt_w y) acts
  refine pc_at Tryz.func6 rfl (by kernel_rfl) 119 [.tmp 4] rfl rfl ?_
  repeat' (conv => whnf); first
    | refine nameB_self (b := b) ?_
    | refine nameB_no (b := !(b == b)) (by simp) ?_
    | refine nameB_dno (by omega) ?_
    | refine nameB_true ?_
    | refine nameB_false ?_
    | refine nameB_yes (by assumption) ?_
    | refine nameB_no (by assumption) ?_
    | refine nameB_dyes (by assumption) ?_
    | refine nameB_dno (by assumption) ?_
    | (refine nameB_dec (fun h => ?_) (fun h => ?_) <;> try simp only [lensB, midL_len, mkL_length, Int.toNat_natCast, fact_byte] at h)
    | (refine nameB_cases (fun h => ?_) (fun h => ?_) <;> try simp only [bne_iff_ne, ne_eq, bne_eq_false_iff_eq, beq_iff_eq, beq_eq_false_iff_ne, Bool.not_eq_true', Bool.not_eq_false', Bool.or_eq_true, Bool.or_eq_false_iff, lensB, midL_len, mkL_length, Int.toNat_natCast, fact_byte] at h)
    | refine splitB_true ?_
    | refine splitB_false ?_
    | (refine splitB_intro (fun h => ?_) (fun h => ?_) <;> subst h)
    | refine draw_text (by kernel_rfl) (by kernel_rfl) (by kernel_rfl) ?_
    | refine both_intro ?_ ?_
    | refine eitherB_l ?_
    | exact True.intro
    | (show Go.Ab.CallA _ _ _ _ _ _ _; first
        | (by_cases hn : (1048576 : Int) - ((GroupT.w a : Nat) : Int) < 0 <;> first | refine Call0 (pc_szneg (c_laws_szGroup a (1048576 : Int) (by omega) (by omega) hok) hn) rfl rfl ?_ | refine Call0 (pc_szpos (c_laws_szGroup a (1048576 : Int) (by omega) (by omega) hok) hn) rfl rfl ?_)
        | (by_cases hn : (1048576 - ((GroupT.w a : Nat) : Int)) - ((wL GroupActT.w acts : Nat) : Int) < 0 <;> first | refine Call0 (pc_szneg (c_laws_szGroupActS acts (1048576 - ((GroupT.w a : Nat) : Int)) (by omega) (by omega) ha) hn) rfl rfl ?_ | refine Call0 (pc_szpos (c_laws_szGroupActS acts (1048576 - ((GroupT.w a : Nat) : Int)) (by omega) (by omega) ha) hn) rfl rfl ?_)
        | refine CallT (hS (by omega)) rfl rfl rfl rfl (Nat.le_of_ble_eq_true rfl) ?_
        | refine CallT (nid := 32784) (c_laws_toGroup_ro a (by omega)) rfl rfl rfl rfl (Nat.le_of_ble_eq_true rfl) ?_
        | refine CallT (nid := 32816) (c_laws_toGroupActS_ro acts (by omega)) rfl rfl rfl rfl (Nat.le_of_ble_eq_true rfl) ?_
        | refine CallF (hI (by omega)) rfl rfl rfl (Nat.le_of_ble_eq_true rfl) ?_
        | refine CallF (c_laws_toGroup a (by omega)) rfl rfl rfl (Nat.le_of_ble_eq_true rfl) ?_
        | refine CallF (c_laws_toGroupActS acts (by omega)) rfl rfl rfl (Nat.le_of_ble_eq_true rfl) ?_
        | refine Call0 (pc_true (c_laws_eqGroup W W hW) rfl) rfl rfl ?_
        | refine Call0 (pc_true (c_laws_eqGroup a a hok) rfl) rfl rfl ?_
        | refine Call0 (pc_true (c_laws_eqGroupActS acts acts ha) rfl) rfl rfl ?_
        | refine CallMs (m_laws_markGroup a 1 (by omega) (by omega)) [] trivial rfl rfl ?_
        | refine CallM1 (m_laws_markGroup a 1 (by omega) (by omega)) [] trivial rfl rfl ?_
        | refine CallMs (m_laws_markGroupActS acts (GroupT.cntS a 1) (by omega) (by omega) (by omega)) [] trivial rfl rfl ?_
        | refine CallM1 (m_laws_markGroupActS acts (GroupT.cntS a 1) (by omega) (by omega) (by omega)) [] trivial rfl rfl ?_
        | refine CallMs (m_laws_markGroup W 1 (by omega) (by omega)) [] trivial rfl rfl ?_
        | refine CallM1 (m_laws_markGroup W 1 (by omega) (by omega)) [] trivial rfl rfl ?_
        | refine Call0 (c_laws_heldGroup W 1 (by omega) (by omega)) rfl rfl ?_)
    | (show Go.Ab.CallD _ _ _ _ _ _ _; first
        | (by_cases hn : (1048576 : Int) - ((GroupT.w a : Nat) : Int) < 0 <;> first | refine CallD0 (pc_szneg (c_laws_szGroup a (1048576 : Int) (by omega) (by omega) hok) hn) rfl rfl rfl ?_ | refine CallD0 (pc_szpos (c_laws_szGroup a (1048576 : Int) (by omega) (by omega) hok) hn) rfl rfl rfl ?_)
        | (by_cases hn : (1048576 - ((GroupT.w a : Nat) : Int)) - ((wL GroupActT.w acts : Nat) : Int) < 0 <;> first | refine CallD0 (pc_szneg (c_laws_szGroupActS acts (1048576 - ((GroupT.w a : Nat) : Int)) (by omega) (by omega) ha) hn) rfl rfl rfl ?_ | refine CallD0 (pc_szpos (c_laws_szGroupActS acts (1048576 - ((GroupT.w a : Nat) : Int)) (by omega) (by omega) ha) hn) rfl rfl rfl ?_)
        | refine CallDT (hS (by omega)) rfl rfl rfl ⟨rfl, rfl⟩ ?_
        | refine CallDT (nid := 32784) (c_laws_toGroup_ro a (by omega)) rfl rfl rfl ⟨rfl, rfl⟩ ?_
        | refine CallDT (nid := 32816) (c_laws_toGroupActS_ro acts (by omega)) rfl rfl rfl ⟨rfl, rfl⟩ ?_
        | refine CallDF (hI (by omega)) rfl rfl ⟨rfl, rfl⟩ ?_
        | refine CallDF (c_laws_toGroup a (by omega)) rfl rfl ⟨rfl, rfl⟩ ?_
        | refine CallDF (c_laws_toGroupActS acts (by omega)) rfl rfl ⟨rfl, rfl⟩ ?_
        | refine CallD0 (pc_true (c_laws_eqGroup W W hW) rfl) rfl rfl rfl ?_
        | refine CallD0 (pc_true (c_laws_eqGroup a a hok) rfl) rfl rfl rfl ?_
        | refine CallD0 (pc_true (c_laws_eqGroupActS acts acts ha) rfl) rfl rfl rfl ?_
        | refine CallD0 (c_laws_heldGroup W 1 (by omega) (by omega)) rfl rfl rfl ?_)
    | refine ix_map_at hx ?_
    | refine ix_map_at hy ?_
    | refine sl_pre (by omega) (fun _ => rfl) ?_
    | refine sl_suf (by omega) (fun _ => rfl) ?_
    | (refine ix_map2 hx (by omega) (by (try simp only [List.length_take]); omega) (fun y hy => ?_); try simp only [Int.toNat_natCast] at hy)
    | (refine ix_map (by omega) (by (try simp only [List.length_take]); omega) (fun x hx => ?_); try simp only [Int.toNat_natCast] at hx)
    | refine side_and (side_of (by first | (and_intros <;> first | exact Nat.le_of_ble_eq_true rfl | rfl | omega | (simp only [lensB, lensC, List.length_replicate, midL_len, mkL_length]; omega) | exact bytes_ok (Nat.le_of_ble_eq_true rfl) (by omega) (by simp only [lensB, lensC, List.length_replicate, midL_len, mkL_length]; omega) | exact bytes_okN (Nat.le_of_ble_eq_true rfl) (by simp only [lensB, lensC, List.length_replicate, midL_len, mkL_length]; omega)) | fail)) ?_
    | refine nilB_intro (fun h => ?_) ?_
    | refine side_and (side_of (show Go.Ab.structOk _ _ = true by kernel_rfl)) ?_
    | refine side_and (side_of (map_len (fun _ => rfl))) ?_
    | refine side_and (side_of (map_one (fun _ => rfl) _)) ?_
    | refine side_and ?_ ?_
    | refine LoadK_of rfl rfl ?_
    | refine LoadD_cel rfl rfl rfl rfl ?_
    | refine LoadD_of rfl ?_
    | refine StoreD_of rfl rfl rfl ?_
    | refine AppD_of rfl (by and_intros <;> first | rfl | decide) (by simp only [lensC]; first | (refine ⟨by omega, ?_⟩; refine Nat.le_trans (Nat.mul_le_mul_left _ (show _ ≤ 512 by decide)) ?_; omega) | fail) ?_
    | refine AppN_of rfl rfl (by and_intros <;> rfl) (by simp only [lensC]; first | (refine ⟨by omega, ?_⟩; refine Nat.le_trans (Nat.mul_le_mul_left _ (show _ ≤ 512 by decide)) ?_; omega) | fail) ?_
    | (show False; omega)
  all_goals
    conv => whnf
    refine OutA_plain rfl rfl ?_
    first | rfl | (exfalso; omega) | (exfalso; simp at * <;> omega)
theorem c_laws_FnExactPlayGroup (a : GroupT) (acts : List GroupActT) (hok : a.ok) (ha : okL GroupActT.ok acts) : PC Tryz.prog false 6 [.agg a.cells, .sl (acts.map GroupActT.cells)] (.bool true) [] := by
  by_cases hw : a.w + wL GroupActT.w acts ≤ 1048576
  · exact law_PlayGroup a (playR a acts) acts (okPlayG a acts) hok ha (playR_PG hok ha hw).1 (playR_PG hok ha hw).2 (c_spec_PlayGroup a acts hok ha) (c_impl_PlayGroup a acts hok ha)
  · exact law_PlayGroup a zeroG acts false hok ha zeroG_ok zeroG_w (fun h => absurd h hw) (fun h => absurd h hw)
end Go.Proofs.YtfpkfnfgloonhaaGreat
