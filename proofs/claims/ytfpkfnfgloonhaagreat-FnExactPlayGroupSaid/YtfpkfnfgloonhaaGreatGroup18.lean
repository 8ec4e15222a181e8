/-
  What an append to the leader's log gives, by the program.
  No condition.
-/
import Derived.Test.YtfpkfnfgloonhaaGreatGroup6
import Derived.Test.YtfpkfnfgloonhaaGreatGroup8b
import Derived.Test.YtfpkfnfgloonhaaGreatM5
namespace Go.Proofs.YtfpkfnfgloonhaaGreat
open Go.Ab
set_option linter.unusedSimpArgs false
set_option maxRecDepth 20000
set_option maxHeartbeats 4000000
set_option linter.unusedVariables false

def lenLead (g : GroupT) : Nat := match g.Reps[g.Lead.toNat]? with | some y => y.Log.length | none => 0
def okPut (g : GroupT) (r : RecT) : Bool := okGroup g && (decide (0 ≤ g.Lead) && (decide (lenLead g < 60) && okRec r))
def putE (g : GroupT) (r : RecT) (y : ReplicaT) : ReplicaT := { y with Log := y.Log ++ [⟨g.Term, r⟩] }
def putN (g : GroupT) (r : RecT) : GroupT := ⟨setRep g g.Lead (putE g r), g.Term, g.Lead⟩
def putR (g : GroupT) (r : RecT) : GroupT := resG (okPut g r) (putN g r)
theorem ix_setG {L : List (List AV)} {e : List AV} {n : Nat} {Q : List AV → Prop} (h : n < L.length) (hQ : Q e) : ∃ e', (L.set n e)[n]? = some e' ∧ Q e' := ⟨e, by simp [h], hQ⟩
theorem lead_side {g : GroupT} (h : okGroup g = true) (h0 : ¬ g.Lead < 0) : 0 ≤ g.Lead ∧ g.Lead < ((g.Reps.map ReplicaT.cells).length : Int) := by
  have := okLead_lt h h0
  rw [List.length_map]
  omega
theorem putR_yes {g : GroupT} {r : RecT} (h : okPut g r = true) : putR g r = putN g r := by rw [putR, resG_yes h]
theorem putR_no {g : GroupT} {r : RecT} (h : okPut g r = false) : putR g r = ⟨[], 0, 0⟩ := by rw [putR, resG_no h]; rfl
theorem lenLead_of {g : GroupT} {y : ReplicaT} (hy : g.Reps[g.Lead.toNat]? = some y) : lenLead g = y.Log.length := by unfold lenLead; rw [hy]
theorem okG_log {g : GroupT} {l : ReplicaT} (h : okGroup g = true) (hl : l ∈ g.Reps) : l.Log.length ≤ 60 := by
  unfold okGroup at h
  simp only [Bool.and_eq_true, List.all_eq_true] at h
  have h2 := h.2 l hl
  unfold okRep at h2
  simp only [Bool.and_eq_true] at h2
  have h3 := h2.1
  unfold okLog at h3
  simp only [Bool.and_eq_true, decide_eq_true_eq] at h3
  omega
theorem lenLead_60 {g : GroupT} {y : ReplicaT} (hg : okGroup g = true) (hy : g.Reps[g.Lead.toNat]? = some y) : y.Log.length ≤ 60 := okG_log hg (List.mem_of_getElem? hy)
theorem okPut_yes {g : GroupT} {r : RecT} {y : ReplicaT} (h1 : okGroup g = true) (h2 : ¬ g.Lead < 0) (hy : g.Reps[g.Lead.toNat]? = some y) (h3 : ¬ (y.Log.length : Int) = 60) (h4 : okRec r = true) : okPut g r = true := by
  have := lenLead_60 h1 hy
  unfold okPut
  rw [h1, h4, lenLead_of hy, decide_eq_true (show 0 ≤ g.Lead by omega), decide_eq_true (show y.Log.length < 60 by omega)]
  rfl
theorem okPut_no1 {g : GroupT} {r : RecT} (h : okGroup g = false ∨ g.Lead < 0 ∨ okRec r = false) : okPut g r = false := by
  unfold okPut
  rcases h with h | h | h
  · rw [h]; rfl
  · rw [decide_eq_false (show ¬ 0 ≤ g.Lead by omega)]; simp
  · rw [h]; simp
theorem okPut_no2 {g : GroupT} {r : RecT} {y : ReplicaT} (hy : g.Reps[g.Lead.toNat]? = some y) (h3 : (y.Log.length : Int) = 60 ∨ (y.Log.length : Int) ≥ 60) : okPut g r = false := by
  unfold okPut
  rw [lenLead_of hy, decide_eq_false (show ¬ y.Log.length < 60 by omega)]
  simp
theorem put_cells {g : GroupT} {r : RecT} {y : ReplicaT} {c c0 : List AV} (hy : g.Reps[g.Lead.toNat]? = some y) (hc : c = (putE g r y).cells) : ((g.Reps.map ReplicaT.cells).set g.Lead.toNat c0).set g.Lead.toNat c = (putN g r).Reps.map ReplicaT.cells := by
  rw [List.set_set]
  exact setRep_cells (f := putE g r) hy hc
theorem putE_cells {g : GroupT} {r : RecT} {y : ReplicaT} {L : List (List AV)} (hL : L = y.Log.map EntryT.cells ++ [(⟨g.Term, r⟩ : EntryT).cells]) : [AV.bool y.Up, .sl L, .int .i64 y.Sure] = (putE g r y).cells := by
  rw [hL]
  unfold putE ReplicaT.cells
  simp only [List.map_append, List.map_cons, List.map_nil]
theorem c_impl_PutEntry (g : GroupT) (r : RecT) (hok : g.ok) (hw : GB g) (rok : r.ok) (h1r : r.Reads.length ≤ 1048576) (h2r : r.Writes.length ≤ 1048576) : PC Tryz.prog false 105 [.agg g.cells, .agg r.cells] (.tup [.agg [.own 0, .int .i64 (putR g r).Term, .int .i64 (putR g r).Lead], .bool (okPut g r)]) [⟨.deep ReplicaT.shp, 90, 3, (putR g r).Reps.map ReplicaT.cells⟩] := by
  have hl := reps_len hw
  refine pc_at Tryz.func105 rfl (by kernel_rfl) 55 [.cell 4 38, .tmp 5] rfl rfl ?_
  repeat' (conv => whnf); first
    | (show Go.Ab.drawA _ _ _ _ _; refine draw_exp (.take 0 (.take 1 (.take 2 (.take 3 (.take 5 (.fork 4 (.fork 6 (.fork 7 (.fork 8 (.fork 9 (.fork 10 (.fork 11 (.take 12 (.take 13 (.fork 14 (.done) (.stop)))) (.stop)) (.stop)) (.stop)) (.stop)) (.stop)) (.fork 7 (.fork 6 (.fork 8 (.fork 9 (.fork 10 (.fork 11 (.take 12 (.take 13 (.fork 14 (.done) (.stop)))) (.stop)) (.stop)) (.stop)) (.stop)) (.fork 8 (.fork 6 (.fork 9 (.fork 10 (.fork 11 (.take 12 (.take 13 (.fork 14 (.done) (.stop)))) (.stop)) (.stop)) (.stop)) (.stop)) (.stop))) (.stop))) (.fork 6 (.fork 4 (.fork 7 (.fork 8 (.fork 9 (.fork 10 (.fork 11 (.take 12 (.take 13 (.fork 14 (.done) (.stop)))) (.stop)) (.stop)) (.stop)) (.stop)) (.stop)) (.fork 7 (.fork 4 (.fork 8 (.fork 9 (.fork 10 (.fork 11 (.take 12 (.take 13 (.fork 14 (.done) (.stop)))) (.stop)) (.stop)) (.stop)) (.stop)) (.fork 8 (.fork 4 (.fork 9 (.fork 10 (.fork 11 (.take 12 (.take 13 (.fork 14 (.done) (.stop)))) (.stop)) (.stop)) (.stop)) (.fork 9 (.fork 4 (.fork 10 (.fork 11 (.take 12 (.take 13 (.fork 14 (.done) (.stop)))) (.stop)) (.stop)) (.fork 10 (.fork 4 (.fork 11 (.take 12 (.take 13 (.fork 14 (.done) (.stop)))) (.stop)) (.stop)) (.stop))) (.stop))) (.stop))) (.stop))) (.fork 7 (.fork 4 (.fork 6 (.fork 8 (.fork 9 (.fork 10 (.fork 11 (.take 12 (.take 13 (.fork 14 (.done) (.stop)))) (.stop)) (.stop)) (.stop)) (.stop)) (.fork 8 (.fork 6 (.fork 9 (.fork 10 (.fork 11 (.take 12 (.take 13 (.fork 14 (.done) (.stop)))) (.stop)) (.stop)) (.stop)) (.stop)) (.stop))) (.fork 6 (.fork 4 (.fork 8 (.fork 9 (.fork 10 (.fork 11 (.take 12 (.take 13 (.fork 14 (.done) (.stop)))) (.stop)) (.stop)) (.stop)) (.stop)) (.fork 8 (.fork 4 (.fork 9 (.fork 10 (.fork 11 (.take 12 (.take 13 (.fork 14 (.done) (.stop)))) (.stop)) (.stop)) (.stop)) (.fork 9 (.fork 4 (.fork 10 (.fork 11 (.take 12 (.take 13 (.fork 14 (.done) (.stop)))) (.stop)) (.stop)) (.fork 10 (.fork 4 (.fork 11 (.take 12 (.take 13 (.fork 14 (.done) (.stop)))) (.stop)) (.stop)) (.stop))) (.stop))) (.stop))) (.fork 8 (.fork 4 (.fork 6 (.fork 9 (.fork 10 (.fork 11 (.take 12 (.take 13 (.fork 14 (.done) (.stop)))) (.stop)) (.stop)) (.stop)) (.stop)) (.fork 6 (.fork 4 (.fork 9 (.fork 10 (.fork 11 (.take 12 (.take 13 (.fork 14 (.done) (.stop)))) (.stop)) (.stop)) (.stop)) (.fork 9 (.fork 4 (.fork 10 (.fork 11 (.take 12 (.take 13 (.fork 14 (.done) (.stop)))) (.stop)) (.stop)) (.fork 10 (.fork 4 (.fork 11 (.take 12 (.take 13 (.fork 14 (.done) (.stop)))) (.stop)) (.stop)) (.stop))) (.stop))) (.stop))) (.stop)))) (.stop))))))))) (by kernel_rfl) (by kernel_rfl) (by kernel_rfl) ?_)
    | refine nameB_self (b := r.Yes) ?_
    | refine ix_ownat (f := ReplicaT.cells) (xs := g.Reps) hy ?_
    | refine ix_setG (L := g.Reps.map ReplicaT.cells) (by rw [List.length_map]; exact (okLead_lt (by assumption) (by assumption)).2) ?_
    | exact side_of (lead_side (by assumption) (by assumption))
    | refine ix_own (f := ReplicaT.cells) (xs := g.Reps) (okLead_lt (by assumption) (by assumption)).2 (fun y hy => ?_)
    | (refine nameB_cases (b := okGroup g) (fun h => ?_) (fun h => ?_))
    | refine nameB_true ?_
    | refine nameB_false ?_
    | refine nameB_yes (by assumption) ?_
    | refine nameB_no (by assumption) ?_
    | refine nameB_dyes (by assumption) ?_
    | refine nameB_dno (by assumption) ?_
    | (refine nameB_dec (fun h => ?_) (fun h => ?_) <;> try simp only [lensB, midL_len, mkL_length, Int.toNat_natCast, fact_byte] at h)
    | (refine nameB_cases (fun h => ?_) (fun h => ?_) <;> try simp only [bne_iff_ne, ne_eq, bne_eq_false_iff_eq, beq_iff_eq, beq_eq_false_iff_ne, Bool.not_eq_true', Bool.not_eq_false', Bool.or_eq_true, Bool.or_eq_false_iff, lensB, midL_len, mkL_length, Int.toNat_natCast, fact_byte] at h)
    | refine splitB_true ?_
    | refine splitB_false ?_
    | (refine splitB_intro (fun h => ?_) (fun h => ?_) <;> subst h)
    | refine draw_text (by kernel_rfl) (by kernel_rfl) (by kernel_rfl) ?_
    | refine both_intro ?_ ?_
    | refine eitherB_l ?_
    | exact True.intro
    | (show Go.Ab.CallA _ _ _ _ _ _ _; first
        | refine Call0 (c_impl_GoodGroup g hok hw) rfl rfl ?_
        | refine CallF (c_impl_copyGroup g hw) rfl rfl rfl (Nat.le_of_ble_eq_true rfl) ?_
        | refine Call0 (c_impl_GoodRec r rok h2r h1r) rfl rfl ?_
        | refine CallF (c_impl_copyRec r h1r h2r) rfl rfl rfl (Nat.le_of_ble_eq_true rfl) ?_)
    | (show Go.Ab.CallD _ _ _ _ _ _ _; first
        | refine CallD0 (c_impl_GoodGroup g hok hw) rfl rfl rfl ?_
        | refine CallDF (c_impl_copyGroup g hw) rfl rfl ⟨rfl, rfl⟩ ?_
        | refine CallD0 (c_impl_GoodRec r rok h2r h1r) rfl rfl rfl ?_
        | refine CallDF (c_impl_copyRec r h1r h2r) rfl rfl ⟨rfl, rfl⟩ ?_)
    | (show Go.Ab.HookA _ _ _ _ _; first
        | refine hook_appC true rfl rfl rfl rfl rfl rfl (by rw [List.getElem?_map, hy]; rfl) ?_)
    | refine ix_map_at hx ?_
    | refine ix_map_at hy ?_
    | refine sl_pre (by omega) (fun _ => rfl) ?_
    | refine sl_suf (by omega) (fun _ => rfl) ?_
    | (refine ix_map2 hx (by omega) (by (try simp only [List.length_take]); omega) (fun y hy => ?_); try simp only [Int.toNat_natCast] at hy)
    | (refine ix_map (by omega) (by (try simp only [List.length_take]); omega) (fun x hx => ?_); try simp only [Int.toNat_natCast] at hx)
    | refine side_and (side_of (by first | (and_intros <;> first | exact Nat.le_of_ble_eq_true rfl | rfl | omega | (simp only [lensB, lensC, List.length_replicate, midL_len, mkL_length]; omega) | exact bytes_ok (Nat.le_of_ble_eq_true rfl) (by omega) (by simp only [lensB, lensC, List.length_replicate, midL_len, mkL_length]; omega) | exact bytes_okN (Nat.le_of_ble_eq_true rfl) (by simp only [lensB, lensC, List.length_replicate, midL_len, mkL_length]; omega)) | fail)) ?_
    | refine nilB_intro (fun h => ?_) ?_
    | refine side_and (side_of (show Go.Ab.structOk _ _ = true by kernel_rfl)) ?_
    | refine side_and (side_of (map_len (fun _ => rfl))) ?_
    | refine side_and (side_of (map_one (fun _ => rfl) _)) ?_
    | refine side_and ?_ ?_
    | refine LoadK_of rfl rfl ?_
    | refine LoadD_cel rfl rfl rfl rfl ?_
    | refine LoadD_of rfl ?_
    | refine StoreD_of rfl rfl rfl ?_
    | refine AppD_of rfl (by and_intros <;> first | rfl | decide) (by simp only [lensC]; first | (refine ⟨by omega, ?_⟩; refine Nat.le_trans (Nat.mul_le_mul_left _ (show _ ≤ 512 by decide)) ?_; omega) | fail) ?_
    | refine AppN_of rfl rfl (by and_intros <;> rfl) (by simp only [lensC]; first | (refine ⟨by omega, ?_⟩; refine Nat.le_trans (Nat.mul_le_mul_left _ (show _ ≤ 512 by decide)) ?_; omega) | fail) ?_
    | refine BuildD_of EntryT.shp rfl rfl rfl ?_
    | refine AppD_of rfl (by and_intros <;> first | rfl | decide) (deep_app (L := y.Log.map EntryT.cells) rfl rfl (by rw [List.length_map]; have := wL_len (w := EntryT.w) (xs := y.Log); have := rep_logS hw hy; omega) (Nat.le_of_ble_eq_true rfl)) ?_
    | (show False; omega)
  all_goals
    conv => whnf
    first
    | (have e := okPut_yes (by assumption) (by assumption) hy (by assumption) (by assumption)
       rw [putR_yes e, e]
       exact OutA_deep rfl rfl rfl ⟨⟨congrArg (fun e => some (AObj.mk _ _ _ e)) (put_cells hy (putE_cells rfl)), rfl⟩, trivial⟩ rfl)
    | (have e : okPut g r = false := (by first | exact okPut_no1 (by first | exact .inl (by assumption) | exact .inr (.inl (by assumption)) | exact .inr (.inr (by assumption))) | exact okPut_no2 hy (by first | exact .inl (by assumption) | exact .inr (by assumption)))
       rw [putR_no e, e]
       refine OutA_nilB 32 1 90 3 0 rfl rfl rfl (by decide) ?_
       refine OutA_prom [(1, ReplicaT.shp)] ⟨⟨_, _, _, rfl, prom_nil⟩, trivial⟩ ?_
       conv => whnf
       exact OutA_deep rfl rfl rfl ⟨⟨rfl, rfl⟩, trivial⟩ rfl)
end Go.Proofs.YtfpkfnfgloonhaaGreat
