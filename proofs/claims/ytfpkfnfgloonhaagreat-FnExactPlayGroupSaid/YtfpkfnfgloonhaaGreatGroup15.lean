/-
  What an advance gives, in the program and in the reference.
  No condition.
-/
import Derived.Test.YtfpkfnfgloonhaaGreatGroup14
namespace Go.Proofs.YtfpkfnfgloonhaaGreat
open Go.Ab
set_option linter.unusedSimpArgs false
set_option maxRecDepth 20000
set_option maxHeartbeats 4000000
set_option linter.unusedVariables false

theorem log_le {g : GroupT} {l : ReplicaT} {n : Nat} (hw : GB g) (h : g.Reps[n]? = some l) : l.Log.length ≤ 1048576 := Nat.le_trans (wL_len (w := EntryT.w)) (rep_w hw (List.mem_of_getElem? h))
theorem sl_tk {l : List EntryT} {m : Nat} : List.drop (Int.toNat 0) (List.take ((m : Int)).toNat (l.map EntryT.cells)) = (l.take m).map EntryT.cells := by
  rw [Int.toNat_natCast, List.map_take]
  rfl
theorem c_impl_Advance_1 (x l : ReplicaT) (m : Nat) (hx : okL EntryT.ok x.Log) (hm : m ≤ l.Log.length) (hll : l.Log.length ≤ 1048576) : PC Tryz.prog false 163 [.agg x.cells, .rp l.cells, .rp [.int .i64 (m : Nat)]] (.bool (preE x.Log (l.Log.take m))) [] := by
  refine pc_at Tryz.func163 rfl (by kernel_rfl) 12 [.tmp 4] rfl rfl ?_
  repeat' (conv => whnf); first
    | refine nameB_self (b := x.Up) ?_
    | refine nameB_self (b := l.Up) ?_
    | (refine nameB_cases (b := preE x.Log (l.Log.take m)) (fun h => ?_) (fun h => ?_))
    | refine nameB_true ?_
    | refine nameB_false ?_
    | refine nameB_yes (by assumption) ?_
    | refine nameB_no (by assumption) ?_
    | refine nameB_dyes (by assumption) ?_
    | refine nameB_dno (by assumption) ?_
    | (refine nameB_dec (fun h => ?_) (fun h => ?_) <;> try simp only [lensB, midL_len, mkL_length, Int.toNat_natCast, fact_byte] at h)
    | (refine nameB_cases (fun h => ?_) (fun h => ?_) <;> try simp only [bne_iff_ne, ne_eq, bne_eq_false_iff_eq, beq_iff_eq, beq_eq_false_iff_ne, Bool.not_eq_true', Bool.not_eq_false', Bool.or_eq_true, Bool.or_eq_false_iff, lensB, midL_len, mkL_length, Int.toNat_natCast, fact_byte] at h)
    | refine splitB_true ?_
    | refine splitB_false ?_
    | (refine splitB_intro (fun h => ?_) (fun h => ?_) <;> subst h)
    | refine draw_text (by kernel_rfl) (by kernel_rfl) (by kernel_rfl) ?_
    | refine both_intro ?_ ?_
    | refine eitherB_l ?_
    | exact True.intro
    | (show Go.Ab.CallA _ _ _ _ _ _ _; refine Call0 (c_impl_hasPrefix x.Log (l.Log.take m) hx (by rw [List.length_take]; omega)) (congrArg (fun z => [AV.sl (x.Log.map EntryT.cells), AV.sl z]) sl_tk) rfl ?_)
    | (show Go.Ab.CallD _ _ _ _ _ _ _; first
        | refine CallD0 (c_impl_hasPrefix x.Log (l.Log.take m) hx (by rw [List.length_take]; omega)) (congrArg (fun z => [AV.sl (x.Log.map EntryT.cells), AV.sl z]) sl_tk) rfl rfl ?_
        | refine CallD0 (c_impl_hasPrefix x.Log (l.Log.take m) hx (by rw [List.length_take]; omega)) (congrArg (fun z => [AV.sl (x.Log.map EntryT.cells), AV.sl z]) sl_tk) rfl ?_)
    | refine ix_map_at hx ?_
    | refine ix_map_at hy ?_
    | refine sl_pre (by omega) (fun _ => rfl) ?_
    | refine sl_suf (by omega) (fun _ => rfl) ?_
    | (refine ix_map2 hx (by omega) (by (try simp only [List.length_take]); omega) (fun y hy => ?_); try simp only [Int.toNat_natCast] at hy)
    | (refine ix_map (by omega) (by (try simp only [List.length_take]); omega) (fun x hx => ?_); try simp only [Int.toNat_natCast] at hx)
    | refine side_and (side_of (by first | (and_intros <;> first | exact Nat.le_of_ble_eq_true rfl | rfl | omega | (simp only [lensB, lensC, List.length_replicate, midL_len, mkL_length]; omega) | exact bytes_ok (Nat.le_of_ble_eq_true rfl) (by omega) (by simp only [lensB, lensC, List.length_replicate, midL_len, mkL_length]; omega) | exact bytes_okN (Nat.le_of_ble_eq_true rfl) (by simp only [lensB, lensC, List.length_replicate, midL_len, mkL_length]; omega)) | fail)) ?_
    | refine nilB_intro (fun h => ?_) ?_
    | refine side_and (side_of (show Go.Ab.structOk _ _ = true by kernel_rfl)) ?_
    | refine side_and (side_of (map_len (fun _ => rfl))) ?_
    | refine side_and (side_of (map_one (fun _ => rfl) _)) ?_
    | refine side_and ?_ ?_
    | refine LoadK_of rfl rfl ?_
    | refine LoadD_cel rfl rfl rfl rfl ?_
    | refine LoadD_of rfl ?_
    | refine StoreD_of rfl rfl rfl ?_
    | refine AppD_of rfl (by and_intros <;> first | rfl | decide) (by simp only [lensC]; first | (refine ⟨by omega, ?_⟩; refine Nat.le_trans (Nat.mul_le_mul_left _ (show _ ≤ 512 by decide)) ?_; omega) | fail) ?_
    | refine AppN_of rfl rfl (by and_intros <;> rfl) (by simp only [lensC]; first | (refine ⟨by omega, ?_⟩; refine Nat.le_trans (Nat.mul_le_mul_left _ (show _ ≤ 512 by decide)) ?_; omega) | fail) ?_
    | (show False; omega)
  all_goals
    conv => whnf
    refine OutA_plain rfl rfl ?_
    first
    | rfl
    | exact congrArg AV.bool (Eq.symm (by assumption))
theorem cntR_all {g : GroupT} {q : ReplicaT → Bool} (hl : g.Reps.length ≤ 1048576) : IntKind.i64.wrap (2 * (cntR q g.Reps : Int)) = 2 * (cntR q g.Reps : Int) := by
  have := cntR_le (q := q) (l := g.Reps) (k := g.Reps.length)
  rw [List.take_of_length_le (Nat.le_refl _)] at this
  exact i64_wrap (by omega) (by omega)
theorem most_yes {g : GroupT} {q : ReplicaT → Bool} (hl : g.Reps.length ≤ 1048576) (h : IntKind.i64.wrap (2 * (cntR q g.Reps : Int)) > (g.Reps.length : Int)) : most g q = true := decide_eq_true (by rw [← cntR_all hl]; exact h)
theorem most_no {g : GroupT} {q : ReplicaT → Bool} (hl : g.Reps.length ≤ 1048576) (h : ¬ IntKind.i64.wrap (2 * (cntR q g.Reps : Int)) > (g.Reps.length : Int)) : most g q = false := decide_eq_false (by rw [← cntR_all hl]; exact h)
theorem lead_side {g : GroupT} (h : okGroup g = true) (h0 : ¬ g.Lead < 0) : 0 ≤ g.Lead ∧ g.Lead < ((g.Reps.map ReplicaT.cells).length : Int) := by
  have := okLead_lt h h0
  rw [List.length_map]
  omega
theorem c_impl_Advance (g : GroupT) (hok : g.ok) (hw : GB g) : PC Tryz.prog false 125 [.agg g.cells] (.tup [.agg [.own 0, .int .i64 (advR g).Term, .int .i64 (advR g).Lead], .bool (okAdv g)]) [⟨.deep ReplicaT.shp, 90, 3, (advR g).Reps.map ReplicaT.cells⟩] := by
  have hl := reps_len hw
  refine pc_at Tryz.func125 rfl (by kernel_rfl) 57 [.cell 2 38, .tmp 3] rfl rfl ?_
  repeat' (conv => whnf); first
    | refine ix_as (f := ReplicaT.cells) (n := g.Lead) (m := g.Lead.toNat) (by have h9 := okLead_lt (g := g) (by assumption) (by assumption); omega) (by have h9 := okLead_lt (g := g) (by assumption) (by assumption); omega) (fun l hl2 => ?_)
    | refine ix_as (f := EntryT.cells) (xs := l.Log) (m := m - 1) (dec_eq (Nat.le_trans hT.2 (log_le hw hl2)) (okG_sure (by assumption) hl2) (by assumption)) (by have h9 := okG_sure (g := g) (by assumption) hl2; omega) (fun e he => ?_)
    | refine nameB_self (b := l.Up) ?_
    | refine nameB_self (b := e.Rec.Yes) ?_
    | exact side_of (lead_side (by assumption) (by assumption))
    | refine ix_ownat (f := ReplicaT.cells) (xs := g.Reps) hl2 ?_
    | (refine nameB_cases (b := okGroup g) (fun h => ?_) (fun h => ?_))
    | (refine nameB_cases (b := most g _) (fun h => ?_) (fun h => ?_))
    | refine nameB_true ?_
    | refine nameB_false ?_
    | refine nameB_yes (by assumption) ?_
    | refine nameB_no (by assumption) ?_
    | refine nameB_dyes (by assumption) ?_
    | refine nameB_dno (by assumption) ?_
    | (refine nameB_dec (fun h => ?_) (fun h => ?_) <;> try simp only [lensB, midL_len, mkL_length, Int.toNat_natCast, fact_byte] at h)
    | (refine nameB_cases (fun h => ?_) (fun h => ?_) <;> try simp only [bne_iff_ne, ne_eq, bne_eq_false_iff_eq, beq_iff_eq, beq_eq_false_iff_ne, Bool.not_eq_true', Bool.not_eq_false', Bool.or_eq_true, Bool.or_eq_false_iff, lensB, midL_len, mkL_length, Int.toNat_natCast, fact_byte] at h)
    | refine splitB_true ?_
    | refine splitB_false ?_
    | (refine splitB_intro (fun h => ?_) (fun h => ?_) <;> subst h)
    | refine draw_text (by kernel_rfl) (by kernel_rfl) (by kernel_rfl) ?_
    | refine both_intro ?_ ?_
    | refine eitherB_l ?_
    | exact True.intro
    | (show Go.Ab.Loop _ _ _; (refine Loop_at [1, 2, 4, 5] [0, 16, 12304, 12320, 16480] (Nat) (fun m => adv g l m = adv g l l.Log.length ∧ m ≤ l.Log.length) (fun m => [(6, .ptr 20528 0 0)]) (fun m => [(20528, ⟨true, 3, 1, [[.int .i64 (m : Nat)]]⟩)]) (fun m => m) l.Log.length ⟨by first | rfl | first | rfl | fail, trivial⟩ ⟨by first | rfl | first | rfl | exact congrArg (fun z => some (AObj.mk _ _ _ [[AV.int .i64 z]])) (congrArg (fun n : Nat => (n : Int)) (List.length_map _)) | exact congrArg (fun z => some (AObj.mk _ _ _ [[AV.int .i64 z]])) (dec_eq (Nat.le_trans hT.2 (log_le hw hl2)) (okG_sure (by assumption) hl2) (by assumption)) | fail | fail, trivial⟩ (by (try dsimp only); first | (exact ⟨rfl, Nat.le_refl _⟩) | fail) ?_; (conv => whnf); refine side_and (side_of (by first | exact fun m => rfl | exact fun m => by simp [headOk, closedE, closedO, closedL, AV.closed, hcap.closed, hasId, AObj.box, BK.ofB])) ?_; rintro m hT; try dsimp only at hT))
    | (show Go.Ab.Again _ _ _ _ _ _ _ _ _ _ _; first
        | refine Again_ren 45056 20528 (by decide) rfl ?_; (conv => whnf); refine Again_of (m - 1) ⟨by first | rfl | first | rfl | fail, trivial⟩ ⟨by first | rfl | first | rfl | exact congrArg (fun z => some (AObj.mk _ _ _ [[AV.int .i64 z]])) (congrArg (fun n : Nat => (n : Int)) (List.length_map _)) | exact congrArg (fun z => some (AObj.mk _ _ _ [[AV.int .i64 z]])) (dec_eq (Nat.le_trans hT.2 (log_le hw hl2)) (okG_sure (by assumption) hl2) (by assumption)) | fail | fail, trivial⟩ (by first | (and_intros <;> first | rfl | trivial) | fail) (by first | (and_intros <;> first | rfl | trivial) | fail) rfl rfl rfl (by (try dsimp only); first | (first | exact ⟨(adv_go (okG_sure (by assumption) hl2) (by assumption) (hit_no1 he (by assumption))).trans hT.1, by omega⟩ | exact ⟨(adv_go (okG_sure (by assumption) hl2) (by assumption) (hit_no2 (by assumption))).trans hT.1, by omega⟩) | fail) (show _ < _ by (try dsimp only); (have h9 := okG_sure (by assumption) hl2; omega))
        | refine Again_of (m - 1) ⟨by first | rfl | first | rfl | fail, trivial⟩ ⟨by first | rfl | first | rfl | exact congrArg (fun z => some (AObj.mk _ _ _ [[AV.int .i64 z]])) (congrArg (fun n : Nat => (n : Int)) (List.length_map _)) | exact congrArg (fun z => some (AObj.mk _ _ _ [[AV.int .i64 z]])) (dec_eq (Nat.le_trans hT.2 (log_le hw hl2)) (okG_sure (by assumption) hl2) (by assumption)) | fail | fail, trivial⟩ (by first | (and_intros <;> first | rfl | trivial) | fail) (by first | (and_intros <;> first | rfl | trivial) | fail) rfl rfl rfl (by (try dsimp only); first | (first | exact ⟨(adv_go (okG_sure (by assumption) hl2) (by assumption) (hit_no1 he (by assumption))).trans hT.1, by omega⟩ | exact ⟨(adv_go (okG_sure (by assumption) hl2) (by assumption) (hit_no2 (by assumption))).trans hT.1, by omega⟩) | fail) (show _ < _ by (try dsimp only); (have h9 := okG_sure (by assumption) hl2; omega)))
    | (show Go.Ab.CallA _ _ _ _ _ _ _; first
        | refine Call0 (c_impl_GoodGroup g hok hw) rfl rfl ?_
        | refine CallF (c_impl_copyGroup g hw) rfl rfl rfl (Nat.le_of_ble_eq_true rfl) ?_)
    | (show Go.Ab.CallD _ _ _ _ _ _ _; first
        | refine CallD0 (c_impl_Group_isMost g 163 [.rp l.cells, .rp [.int .i64 (m : Nat)]] (fun x => preE x.Log (l.Log.take m)) hw ⟨fun _ => rfl, fun _ => rfl, fun _ => rfl, fun _ => rfl, fun _ => rfl⟩ (fun x hx => c_impl_Advance_1 x l m (hok.1.2 x hx).2.1 hT.2 (log_le hw hl2))) rfl rfl rfl ?_
        | refine CallD0 (c_impl_GoodGroup g hok hw) rfl rfl rfl ?_
        | refine CallDF (c_impl_copyGroup g hw) rfl rfl ⟨rfl, rfl⟩ ?_)
    | refine ix_map_at hx ?_
    | refine ix_map_at hy ?_
    | refine sl_pre (by omega) (fun _ => rfl) ?_
    | refine sl_suf (by omega) (fun _ => rfl) ?_
    | (refine ix_map2 hx (by omega) (by (try simp only [List.length_take]); omega) (fun y hy => ?_); try simp only [Int.toNat_natCast] at hy)
    | (refine ix_map (by omega) (by (try simp only [List.length_take]); omega) (fun x hx => ?_); try simp only [Int.toNat_natCast] at hx)
    | refine side_and (side_of (by first | (and_intros <;> first | exact Nat.le_of_ble_eq_true rfl | rfl | omega | (simp only [lensB, lensC, List.length_replicate, midL_len, mkL_length]; omega) | exact bytes_ok (Nat.le_of_ble_eq_true rfl) (by omega) (by simp only [lensB, lensC, List.length_replicate, midL_len, mkL_length]; omega) | exact bytes_okN (Nat.le_of_ble_eq_true rfl) (by simp only [lensB, lensC, List.length_replicate, midL_len, mkL_length]; omega)) | fail)) ?_
    | refine nilB_intro (fun h => ?_) ?_
    | refine side_and (side_of (show Go.Ab.structOk _ _ = true by kernel_rfl)) ?_
    | refine side_and (side_of (map_len (fun _ => rfl))) ?_
    | refine side_and (side_of (map_one (fun _ => rfl) _)) ?_
    | refine side_and ?_ ?_
    | refine LoadK_of rfl rfl ?_
    | refine LoadD_cel rfl rfl rfl rfl ?_
    | refine LoadD_of rfl ?_
    | refine StoreD_of rfl rfl rfl ?_
    | refine AppD_of rfl (by and_intros <;> first | rfl | decide) (by simp only [lensC]; first | (refine ⟨by omega, ?_⟩; refine Nat.le_trans (Nat.mul_le_mul_left _ (show _ ≤ 512 by decide)) ?_; omega) | fail) ?_
    | refine AppN_of rfl rfl (by and_intros <;> rfl) (by simp only [lensC]; first | (refine ⟨by omega, ?_⟩; refine Nat.le_trans (Nat.mul_le_mul_left _ (show _ ≤ 512 by decide)) ?_; omega) | fail) ?_
    | (show False; omega)
  all_goals
    conv => whnf
    first
    | (have h0 : okAdv g = false := okAdv_no (by first | exact .inl (by assumption) | exact .inr (by assumption)); rw [h0, advR_no h0]; refine OutA_nilB 16 1 90 3 0 rfl rfl rfl (by decide) ?_; refine OutA_prom [(1, ReplicaT.shp)] ⟨⟨_, _, _, rfl, prom_nil⟩, trivial⟩ ?_; (conv => whnf); exact OutA_deep rfl rfl rfl ⟨⟨rfl, rfl⟩, trivial⟩ rfl)
    | (have h0 : okAdv g = true := okAdv_yes (by assumption) (by assumption); have h9 := adv_hit (okG_sure (by assumption) hl2) (by assumption) (hit_yes he (by assumption) (by assumption)); rw [h0, advR_yes h0]; exact OutA_deep rfl rfl rfl ⟨⟨congrArg (fun e => some (AObj.mk _ _ _ e)) (setRep_cells (f := fun y => { y with Sure := advS g }) hl2 (adv_cells hl2 (hT.1.symm.trans h9))), rfl⟩, trivial⟩ rfl)
    | (have h0 : okAdv g = true := okAdv_yes (by assumption) (by assumption); have h9 := adv_stop (g := g) (l := l) (m := m) (by assumption); rw [h0, advR_yes h0]; exact OutA_deep rfl rfl rfl ⟨⟨congrArg (fun e => some (AObj.mk _ _ _ e)) (adv_same hl2 (hT.1.symm.trans h9)), rfl⟩, trivial⟩ rfl)
theorem c_spec_Advance (g : GroupT) (hok : g.ok) (hw : GB g) : PC Tryz.prog true 93 [.agg g.cells] (.tup [.agg (advR g).cells, .bool (okAdv g)]) [] := by
  have hl := reps_len hw
  refine pc_at Tryz.func93 rfl (by kernel_rfl) 64 [.cell 2 38, .tmp 3] rfl rfl ?_
  repeat' (conv => whnf); first
    | refine ix_as (f := ReplicaT.cells) (n := g.Lead) (m := g.Lead.toNat) (by have h9 := okLead_lt (g := g) (by assumption) (by assumption); omega) (by have h9 := okLead_lt (g := g) (by assumption) (by assumption); omega) (fun l hl2 => ?_)
    | refine ix_as (f := EntryT.cells) (xs := l.Log) (m := m - 1) (dec_eq (Nat.le_trans hT.2 (log_le hw hl2)) (okG_sure (by assumption) hl2) (by assumption)) (by have h9 := okG_sure (g := g) (by assumption) hl2; omega) (fun e he => ?_)
    | refine nameB_self (b := l.Up) ?_
    | refine nameB_self (b := e.Rec.Yes) ?_
    | exact side_of (lead_side (by assumption) (by assumption))
    | refine ix_ownat (f := ReplicaT.cells) (xs := g.Reps) hl2 ?_
    | (refine nameB_cases (b := okGroup g) (fun h => ?_) (fun h => ?_))
    | refine nameB_true ?_
    | refine nameB_false ?_
    | refine nameB_yes (by assumption) ?_
    | refine nameB_no (by assumption) ?_
    | refine nameB_dyes (by assumption) ?_
    | refine nameB_dno (by assumption) ?_
    | (refine nameB_dec (fun h => ?_) (fun h => ?_) <;> try simp only [lensB, midL_len, mkL_length, Int.toNat_natCast, fact_byte] at h)
    | (refine nameB_cases (fun h => ?_) (fun h => ?_) <;> try simp only [bne_iff_ne, ne_eq, bne_eq_false_iff_eq, beq_iff_eq, beq_eq_false_iff_ne, Bool.not_eq_true', Bool.not_eq_false', Bool.or_eq_true, Bool.or_eq_false_iff, lensB, midL_len, mkL_length, Int.toNat_natCast, fact_byte] at h)
    | refine splitB_true ?_
    | refine splitB_false ?_
    | (refine splitB_intro (fun h => ?_) (fun h => ?_) <;> subst h)
    | refine draw_text (by kernel_rfl) (by kernel_rfl) (by kernel_rfl) ?_
    | refine both_intro ?_ ?_
    | refine eitherB_l ?_
    | exact True.intro
    | (show Go.Ab.Loop _ _ _; (refine Loop_at [1, 2, 4, 5] [0, 16, 12304, 12320, 16480] (Nat) (fun m => adv g l m = adv g l l.Log.length ∧ m ≤ l.Log.length) (fun m => [(6, .int .i64 (m : Nat))]) (fun m => []) (fun m => m) l.Log.length ⟨by first | first | rfl | exact congrArg (fun n : Nat => AV.int .i64 (n : Int)) (List.length_map _) | exact congrArg (AV.int .i64) (dec_eq (Nat.le_trans hT.2 (log_le hw hl2)) (okG_sure (by assumption) hl2) (by assumption)) | rfl | fail, trivial⟩ trivial (by (try dsimp only); first | (exact ⟨rfl, Nat.le_refl _⟩) | fail) ?_; (conv => whnf); refine side_and (side_of (by first | exact fun m => rfl | exact fun m => by simp [headOk, closedE, closedO, closedL, AV.closed, hcap.closed, hasId, AObj.box, BK.ofB])) ?_; rintro m hT; try dsimp only at hT))
    | (show Go.Ab.Again _ _ _ _ _ _ _ _ _ _ _; refine Again_of (m - 1) ⟨by first | rfl | exact i64_next (by omega) | first | rfl | exact congrArg (fun n : Nat => AV.int .i64 (n : Int)) (List.length_map _) | exact congrArg (AV.int .i64) (dec_eq (Nat.le_trans hT.2 (log_le hw hl2)) (okG_sure (by assumption) hl2) (by assumption)) | fail, trivial⟩ trivial (by first | (and_intros <;> first | rfl | trivial) | fail) (by first | (and_intros <;> first | rfl | trivial) | fail) rfl rfl rfl (by (try dsimp only); first | (first | exact ⟨(adv_go (okG_sure (by assumption) hl2) (by assumption) (hit_no1 he (by assumption))).trans hT.1, by omega⟩ | exact ⟨(adv_go (okG_sure (by assumption) hl2) (by assumption) (hit_no2 (most_no hl (by assumption)))).trans hT.1, by omega⟩) | fail) (show _ < _ by (try dsimp only); (have h9 := okG_sure (by assumption) hl2; omega)))
    | (show Go.Ab.CallA _ _ _ _ _ _ _; first
        | refine Call0 (c_spec_GoodGroup g hok hw) rfl rfl ?_
        | refine CallT (c_spec_l9Own g hw) rfl rfl rfl rfl (Nat.le_of_ble_eq_true rfl) ?_
        | refine Call0 (c_spec_l9Many g l.Log m hok hw (log_le hw hl2) hT.2) rfl rfl ?_)
    | (show Go.Ab.CallD _ _ _ _ _ _ _; first
        | refine CallD0 (c_spec_GoodGroup g hok hw) rfl rfl rfl ?_
        | refine CallDT (c_spec_l9Own g hw) rfl rfl rfl ⟨rfl, rfl⟩ ?_
        | refine CallD0 (c_spec_l9Many g l.Log m hok hw (log_le hw hl2) hT.2) rfl rfl rfl ?_)
    | refine ix_map_at hx ?_
    | refine ix_map_at hy ?_
    | refine sl_pre (by omega) (fun _ => rfl) ?_
    | refine sl_suf (by omega) (fun _ => rfl) ?_
    | (refine ix_map2 hx (by omega) (by (try simp only [List.length_take]); omega) (fun y hy => ?_); try simp only [Int.toNat_natCast] at hy)
    | (refine ix_map (by omega) (by (try simp only [List.length_take]); omega) (fun x hx => ?_); try simp only [Int.toNat_natCast] at hx)
    | refine side_and (side_of (by first | (and_intros <;> first | exact Nat.le_of_ble_eq_true rfl | rfl | omega | (simp only [lensB, lensC, List.length_replicate, midL_len, mkL_length]; omega) | exact bytes_ok (Nat.le_of_ble_eq_true rfl) (by omega) (by simp only [lensB, lensC, List.length_replicate, midL_len, mkL_length]; omega) | exact bytes_okN (Nat.le_of_ble_eq_true rfl) (by simp only [lensB, lensC, List.length_replicate, midL_len, mkL_length]; omega)) | fail)) ?_
    | refine nilB_intro (fun h => ?_) ?_
    | refine side_and (side_of (show Go.Ab.structOk _ _ = true by kernel_rfl)) ?_
    | refine side_and (side_of (map_len (fun _ => rfl))) ?_
    | refine side_and (side_of (map_one (fun _ => rfl) _)) ?_
    | refine side_and ?_ ?_
    | refine LoadK_of rfl rfl ?_
    | refine LoadD_cel rfl rfl rfl rfl ?_
    | refine LoadD_of rfl ?_
    | refine StoreD_of rfl rfl rfl ?_
    | refine AppD_of rfl (by and_intros <;> first | rfl | decide) (by simp only [lensC]; first | (refine ⟨by omega, ?_⟩; refine Nat.le_trans (Nat.mul_le_mul_left _ (show _ ≤ 512 by decide)) ?_; omega) | fail) ?_
    | refine AppN_of rfl rfl (by and_intros <;> rfl) (by simp only [lensC]; first | (refine ⟨by omega, ?_⟩; refine Nat.le_trans (Nat.mul_le_mul_left _ (show _ ≤ 512 by decide)) ?_; omega) | fail) ?_
    | (show False; omega)
  all_goals
    conv => whnf
    first
    | (have h0 : okAdv g = false := okAdv_no (by first | exact .inl (by assumption) | exact .inr (by assumption)); rw [h0, advR_no h0]; refine OutA_nilB 16 1 90 3 0 rfl rfl rfl (by decide) ?_; refine OutA_frz [1] ?_; (conv => whnf); exact OutA_plain rfl rfl rfl)
    | (have h0 : okAdv g = true := okAdv_yes (by assumption) (by assumption); have h9 := adv_hit (okG_sure (by assumption) hl2) (by assumption) (hit_yes he (by assumption) (most_yes hl (by assumption))); rw [h0, advR_yes h0]; refine OutA_frz [12304] ?_; (conv => whnf); exact OutA_plain rfl rfl (congrArg (fun e => AV.tup [.agg [.sl e, .int .i64 g.Term, .int .i64 g.Lead], .bool true]) (setRep_cells (f := fun y => { y with Sure := advS g }) hl2 (adv_cells hl2 (hT.1.symm.trans h9)))))
    | (have h0 : okAdv g = true := okAdv_yes (by assumption) (by assumption); have h9 := adv_stop (g := g) (l := l) (m := m) (by assumption); rw [h0, advR_yes h0]; refine OutA_frz [12304] ?_; (conv => whnf); exact OutA_plain rfl rfl (congrArg (fun e => AV.tup [.agg [.sl e, .int .i64 g.Term, .int .i64 g.Lead], .bool true]) (adv_same hl2 (hT.1.symm.trans h9))))
end Go.Proofs.YtfpkfnfgloonhaaGreat
