/-
  What the reference's append to the leader's log gives.
  No condition.
-/
import Derived.Test.YtfpkfnfgloonhaaGreatGroup19
namespace Go.Proofs.YtfpkfnfgloonhaaGreat
open Go.Ab
set_option linter.unusedSimpArgs false
set_option maxRecDepth 20000
set_option maxHeartbeats 4000000
set_option linter.unusedVariables false

theorem c_spec_PutEntryD (g : GroupT) (r : RecT) (hok : g.ok) (hw : GB g) (rok : r.ok) (h1r : r.Reads.length ≤ 1048576) (h2r : r.Writes.length ≤ 1048576) : PC Tryz.prog false 77 [.agg g.cells, .agg r.cells] (.tup [.agg [.own 0, .int .i64 (putR g r).Term, .int .i64 (putR g r).Lead], .bool (okPut g r)]) [⟨.deep ReplicaT.shp, 90, 3, (putR g r).Reps.map ReplicaT.cells⟩] := by
  have hl := reps_len hw
  refine pc_at Tryz.func77 rfl (by kernel_rfl) 55 [.cell 4 38, .tmp 5] rfl rfl ?_
  repeat' (conv => whnf); first
    | (show Go.Ab.drawA _ _ _ _ _; refine draw_exp (.take 0 (.take 2 (.take 4 (.take 6 (.take 11 (.late 16 [1, 3] [5, 7, 8, 9, 10, 12, 13, 14, 15] (.lend 1 (.lend 3 (.lstop (.fork 16 (.fork 17 (.fork 18 (.take 19 (.fork 20 (.done) (.stop))) (.stop)) (.stop)) (.stop))) (.lstop (.fork 3 (.fork 16 (.fork 17 (.fork 18 (.take 19 (.fork 20 (.done) (.stop))) (.stop)) (.stop)) (.stop)) (.fork 16 (.fork 3 (.fork 17 (.fork 18 (.take 19 (.fork 20 (.done) (.stop))) (.stop)) (.stop)) (.fork 17 (.fork 3 (.fork 18 (.take 19 (.fork 20 (.done) (.stop))) (.stop)) (.stop)) (.stop))) (.stop))))) (.lend 3 (.lend 1 (.lstop (.fork 16 (.fork 17 (.fork 18 (.take 19 (.fork 20 (.done) (.stop))) (.stop)) (.stop)) (.stop))) (.lstop (.fork 1 (.fork 16 (.fork 17 (.fork 18 (.take 19 (.fork 20 (.done) (.stop))) (.stop)) (.stop)) (.stop)) (.fork 16 (.fork 1 (.fork 17 (.fork 18 (.take 19 (.fork 20 (.done) (.stop))) (.stop)) (.stop)) (.fork 17 (.fork 1 (.fork 18 (.take 19 (.fork 20 (.done) (.stop))) (.stop)) (.stop)) (.stop))) (.stop))))) (.lstop (.fork 1 (.fork 3 (.fork 16 (.fork 17 (.fork 18 (.take 19 (.fork 20 (.done) (.stop))) (.stop)) (.stop)) (.stop)) (.fork 16 (.fork 3 (.fork 17 (.fork 18 (.take 19 (.fork 20 (.done) (.stop))) (.stop)) (.stop)) (.fork 17 (.fork 3 (.fork 18 (.take 19 (.fork 20 (.done) (.stop))) (.stop)) (.stop)) (.stop))) (.stop))) (.fork 3 (.fork 1 (.fork 16 (.fork 17 (.fork 18 (.take 19 (.fork 20 (.done) (.stop))) (.stop)) (.stop)) (.stop)) (.fork 16 (.fork 1 (.fork 17 (.fork 18 (.take 19 (.fork 20 (.done) (.stop))) (.stop)) (.stop)) (.fork 17 (.fork 1 (.fork 18 (.take 19 (.fork 20 (.done) (.stop))) (.stop)) (.stop)) (.stop))) (.stop))) (.fork 16 (.fork 1 (.fork 3 (.fork 17 (.fork 18 (.take 19 (.fork 20 (.done) (.stop))) (.stop)) (.stop)) (.fork 17 (.fork 3 (.fork 18 (.take 19 (.fork 20 (.done) (.stop))) (.stop)) (.stop)) (.stop))) (.fork 3 (.fork 1 (.fork 17 (.fork 18 (.take 19 (.fork 20 (.done) (.stop))) (.stop)) (.stop)) (.fork 17 (.fork 1 (.fork 18 (.take 19 (.fork 20 (.done) (.stop))) (.stop)) (.stop)) (.stop))) (.fork 17 (.fork 1 (.fork 3 (.fork 18 (.take 19 (.fork 20 (.done) (.stop))) (.stop)) (.stop)) (.fork 3 (.fork 1 (.fork 18 (.take 19 (.fork 20 (.done) (.stop))) (.stop)) (.stop)) (.stop))) (.stop)))) (.stop))))))))))))) (by kernel_rfl) (by kernel_rfl) (by kernel_rfl) ?_)
    | refine nameB_self (b := r.Yes) ?_
    | refine ix_setG (L := g.Reps.map ReplicaT.cells) (by rw [List.length_map]; exact (okLead_lt (by assumption) (by assumption)).2) ?_
    | refine ix_ownat (f := ReplicaT.cells) (xs := g.Reps) hy ?_
    | exact side_of (lead_side (by assumption) (by assumption))
    | refine ix_own (f := ReplicaT.cells) (xs := g.Reps) (okLead_lt (by assumption) (by assumption)).2 (fun y hy => ?_)
    | exact side_of (deep_app (L := y.Log.map EntryT.cells) rfl rfl (by rw [List.length_map]; have := lenLead_60 (by assumption) hy; omega) (Nat.le_of_ble_eq_true rfl))
    | refine side_and (side_of (deep_app (L := y.Log.map EntryT.cells) rfl rfl (by rw [List.length_map]; have := lenLead_60 (by assumption) hy; omega) (Nat.le_of_ble_eq_true rfl))) ?_
    | exact side_of (by have q := lead_side (g := g) (by assumption) (by assumption); refine ⟨q.1, ?_⟩; show _ < ((List.set _ _ _).length : Int); rw [List.length_set]; exact q.2)
    | exact side_of (fun z hz => (congrArg List.length (List.mem_singleton.1 hz)).trans rfl)
    | exact side_of (by first | (and_intros <;> first | rfl | (intro e; exact absurd (AV.own.inj e) (Nat.ne_of_beq_eq_false rfl)) | fail) | fail)
    | (refine nameB_cases (b := okGroup g) (fun h => ?_) (fun h => ?_))
    | (refine nameB_cases (b := okRec r) (fun h => ?_) (fun h => ?_))
    | refine nameB_true ?_
    | refine nameB_false ?_
    | refine nameB_yes (by assumption) ?_
    | refine nameB_no (by assumption) ?_
    | refine nameB_dyes (by assumption) ?_
    | refine nameB_dno (by assumption) ?_
    | (refine nameB_dec (fun h => ?_) (fun h => ?_) <;> try simp only [lensB, midL_len, mkL_length, Int.toNat_natCast, fact_byte] at h)
    | (refine nameB_cases (fun h => ?_) (fun h => ?_) <;> try simp only [bne_iff_ne, ne_eq, bne_eq_false_iff_eq, beq_iff_eq, beq_eq_false_iff_ne, Bool.not_eq_true', Bool.not_eq_false', Bool.or_eq_true, Bool.or_eq_false_iff, lensB, midL_len, mkL_length, Int.toNat_natCast, fact_byte] at h)
    | refine splitB_true ?_
    | refine splitB_false ?_
    | (refine splitB_intro (fun h => ?_) (fun h => ?_) <;> subst h)
    | refine draw_text (by kernel_rfl) (by kernel_rfl) (by kernel_rfl) ?_
    | refine both_intro ?_ ?_
    | refine eitherB_l ?_
    | exact True.intro
    | (show Go.Ab.CallA _ _ _ _ _ _ _; first
        | refine Call0 (c_spec_GoodGroup g hok hw) rfl rfl ?_
        | refine Call0 (c_spec_GoodRec r rok h1r h2r) rfl rfl ?_
        | refine CallF (c_spec_l9OwnD g hw) rfl rfl rfl (Nat.le_of_ble_eq_true rfl) ?_
        | refine CallF (c_spec_l9OwnLogD (y.Log ++ [(⟨g.Term, r⟩ : EntryT)]) (by have := lenLead_60 (by assumption) hy; rw [List.length_append]; simp; omega) (put_ents hw hy h1r h2r)) (congrArg (fun z => [AV.sl z]) (List.map_append (l₁ := y.Log) (l₂ := [(⟨g.Term, r⟩ : EntryT)]) (f := EntryT.cells)).symm) rfl rfl (Nat.le_of_ble_eq_true rfl) ?_)
    | (show Go.Ab.CallD _ _ _ _ _ _ _; first
        | refine CallD0 (c_spec_GoodGroup g hok hw) rfl rfl rfl ?_
        | refine CallD0 (c_spec_GoodRec r rok h1r h2r) rfl rfl rfl ?_
        | refine CallDF (c_spec_l9OwnD g hw) rfl rfl ⟨rfl, rfl⟩ ?_
        | refine CallDF (c_spec_l9OwnLogD (y.Log ++ [(⟨g.Term, r⟩ : EntryT)]) (by have := lenLead_60 (by assumption) hy; rw [List.length_append]; simp; omega) (put_ents hw hy h1r h2r)) (congrArg (fun z => [AV.sl z]) (List.map_append (l₁ := y.Log) (l₂ := [(⟨g.Term, r⟩ : EntryT)]) (f := EntryT.cells)).symm) rfl rfl (Nat.le_of_ble_eq_true rfl) ?_)
    | (show Go.Ab.HookA _ _ _ _ _; first
        | refine hook_appC false rfl rfl rfl rfl rfl rfl (by rw [List.getElem?_map, hy]; rfl) ?_)
    | refine ix_map_at hx ?_
    | refine ix_map_at hy ?_
    | refine sl_pre (by omega) (fun _ => rfl) ?_
    | refine sl_suf (by omega) (fun _ => rfl) ?_
    | (refine ix_map2 hx (by omega) (by (try simp only [List.length_take]); omega) (fun y hy => ?_); try simp only [Int.toNat_natCast] at hy)
    | (refine ix_map (by omega) (by (try simp only [List.length_take]); omega) (fun x hx => ?_); try simp only [Int.toNat_natCast] at hx)
    | refine side_and (side_of (by first | (and_intros <;> first | exact Nat.le_of_ble_eq_true rfl | rfl | omega | (simp only [lensB, lensC, List.length_replicate, midL_len, mkL_length]; omega) | exact bytes_ok (Nat.le_of_ble_eq_true rfl) (by omega) (by simp only [lensB, lensC, List.length_replicate, midL_len, mkL_length]; omega) | exact bytes_okN (Nat.le_of_ble_eq_true rfl) (by simp only [lensB, lensC, List.length_replicate, midL_len, mkL_length]; omega)) | fail)) ?_
    | refine nilB_intro (fun h => ?_) ?_
    | refine side_and (side_of (show Go.Ab.structOk _ _ = true by kernel_rfl)) ?_
    | refine side_and (side_of (map_len (fun _ => rfl))) ?_
    | refine side_and (side_of (map_one (fun _ => rfl) _)) ?_
    | refine side_and ?_ ?_
    | refine LoadK_of rfl rfl ?_
    | refine LoadD_cel rfl rfl rfl rfl ?_
    | refine LoadD_of rfl ?_
    | refine StoreD_of rfl rfl rfl ?_
    | refine AppD_of rfl (by and_intros <;> first | rfl | decide) (by simp only [lensC]; first | (refine ⟨by omega, ?_⟩; refine Nat.le_trans (Nat.mul_le_mul_left _ (show _ ≤ 512 by decide)) ?_; omega) | fail) ?_
    | refine AppN_of rfl rfl (by and_intros <;> rfl) (by simp only [lensC]; first | (refine ⟨by omega, ?_⟩; refine Nat.le_trans (Nat.mul_le_mul_left _ (show _ ≤ 512 by decide)) ?_; omega) | fail) ?_
    | refine LoadR_cel rfl rfl rfl rfl ?_
    | (show False; omega)
  all_goals
    conv => whnf
    first
    | (have e := okPut_yes (by assumption) (by assumption) hy (by omega) (by assumption)
       rw [putR_yes e, e]
       exact OutA_deep rfl rfl rfl ⟨⟨congrArg (fun e => some (AObj.mk _ _ _ e)) (put_cells hy (putE_cells (by rw [List.map_append]; rfl))), rfl⟩, trivial⟩ rfl)
    | (have e : okPut g r = false := (by first | exact okPut_no1 (by first | exact .inl (by assumption) | exact .inr (.inl (by assumption)) | exact .inr (.inr (by assumption))) | exact okPut_no3 hy (by assumption))
       rw [putR_no e, e]
       refine OutA_nilB 32 1 90 3 0 rfl rfl rfl (by decide) ?_
       refine OutA_prom [(1, ReplicaT.shp)] ⟨⟨_, _, _, rfl, prom_nil⟩, trivial⟩ ?_
       conv => whnf
       exact OutA_deep rfl rfl rfl ⟨⟨rfl, rfl⟩, trivial⟩ rfl)
end Go.Proofs.YtfpkfnfgloonhaaGreat
