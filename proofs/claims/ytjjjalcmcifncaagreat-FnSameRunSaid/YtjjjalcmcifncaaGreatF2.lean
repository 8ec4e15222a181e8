/- Part 2 of one proof: lemmas and contracts, laid one behind the other. No condition. -/
import Derived.Test.YtjjjalcmcifncaaGreatF1
namespace Go.Proofs.YtjjjalcmcifncaaGreat
open Go.Ab
set_option linter.unusedSimpArgs false
set_option maxRecDepth 20000
set_option maxHeartbeats 4000000
set_option linter.unusedVariables false
theorem deep_app {o es L : List (List AV)} {b : Nat} (h1 : o = L) (h2 : es.length = 1) (hl : L.length <= 1048576) (hb : b <= 4096) : o.length + es.length <= 70368744177664 /\ (o.length + es.length) * b <= 140737488355328 := by
  rw [h1, h2]
  exact ⟨by omega, Nat.le_trans (Nat.mul_le_mul (Nat.succ_le_succ hl) hb) (nbT rfl)⟩
theorem rep_log {g : GroupT} {x : ReplicaT} {k : Nat} (hw : GB g) (h : g.Reps[k]? = some x) : wL EntryT.w x.Log <= 1048576 := rep_w hw (mgE h)
theorem c_impl_copyGroup (g : GroupT) (hw : GB g) : PC Tryz.prog false 24 [.agg g.cells] (.agg [.own 0, .int .i64 g.Term, .int .i64 g.Lead]) [⟨.deep ReplicaT.shp, 60, 3, g.Reps.map ReplicaT.cells⟩] := by
  have hl := reps_len hw
  refine pc_at Tryz.func24 rfl (by kernel_rfl) 33 [.cell 2 27] rfl rfl ?_
  repeat' (conv => whnf); first
 | (show Go.Ab.drawA _ _ _ _ _; refine draw_exp (.take 0 (.take 2 (.take 4 (.take 7 (.fork 1 (.fork 3 (.fork 5 (.fork 6 (.fork 8 (.fork 9 (.fork 10 (.fork 11 (.take 12 (.fork 13 (.done) (.stop))) (.stop)) (.stop)) (.stop)) (.stop)) (.fork 8 (.fork 6 (.fork 9 (.fork 10 (.fork 11 (.take 12 (.fork 13 (.done) (.stop))) (.stop)) (.stop)) (.stop)) (.stop)) (.stop))) (.fork 8 (.fork 5 (.fork 6 (.fork 9 (.fork 10 (.fork 11 (.take 12 (.fork 13 (.done) (.stop))) (.stop)) (.stop)) (.stop)) (.stop)) (.stop)) (.stop))) (.fork 5 (.fork 3 (.fork 6 (.fork 8 (.fork 9 (.fork 10 (.fork 11 (.take 12 (.fork 13 (.done) (.stop))) (.stop)) (.stop)) (.stop)) (.stop)) (.fork 8 (.fork 6 (.fork 9 (.fork 10 (.fork 11 (.take 12 (.fork 13 (.done) (.stop))) (.stop)) (.stop)) (.stop)) (.stop)) (.stop))) (.fork 6 (.fork 3 (.fork 8 (.fork 9 (.fork 10 (.fork 11 (.take 12 (.fork 13 (.done) (.stop))) (.stop)) (.stop)) (.stop)) (.stop)) (.fork 8 (.fork 3 (.fork 9 (.fork 10 (.fork 11 (.take 12 (.fork 13 (.done) (.stop))) (.stop)) (.stop)) (.stop)) (.stop)) (.stop))) (.fork 8 (.fork 3 (.fork 6 (.fork 9 (.fork 10 (.fork 11 (.take 12 (.fork 13 (.done) (.stop))) (.stop)) (.stop)) (.stop)) (.stop)) (.fork 6 (.fork 3 (.fork 9 (.fork 10 (.fork 11 (.take 12 (.fork 13 (.done) (.stop))) (.stop)) (.stop)) (.stop)) (.stop)) (.stop))) (.stop)))) (.fork 8 (.fork 3 (.fork 5 (.fork 6 (.fork 9 (.fork 10 (.fork 11 (.take 12 (.fork 13 (.done) (.stop))) (.stop)) (.stop)) (.stop)) (.stop)) (.stop)) (.fork 5 (.fork 3 (.fork 6 (.fork 9 (.fork 10 (.fork 11 (.take 12 (.fork 13 (.done) (.stop))) (.stop)) (.stop)) (.stop)) (.stop)) (.fork 6 (.fork 3 (.fork 9 (.fork 10 (.fork 11 (.take 12 (.fork 13 (.done) (.stop))) (.stop)) (.stop)) (.stop)) (.stop)) (.stop))) (.stop))) (.stop)))) (.fork 3 (.fork 1 (.fork 5 (.fork 6 (.fork 8 (.fork 9 (.fork 10 (.fork 11 (.take 12 (.fork 13 (.done) (.stop))) (.stop)) (.stop)) (.stop)) (.stop)) (.fork 8 (.fork 6 (.fork 9 (.fork 10 (.fork 11 (.take 12 (.fork 13 (.done) (.stop))) (.stop)) (.stop)) (.stop)) (.stop)) (.stop))) (.fork 8 (.fork 5 (.fork 6 (.fork 9 (.fork 10 (.fork 11 (.take 12 (.fork 13 (.done) (.stop))) (.stop)) (.stop)) (.stop)) (.stop)) (.stop)) (.stop))) (.fork 5 (.fork 1 (.fork 6 (.fork 8 (.fork 9 (.fork 10 (.fork 11 (.take 12 (.fork 13 (.done) (.stop))) (.stop)) (.stop)) (.stop)) (.stop)) (.fork 8 (.fork 6 (.fork 9 (.fork 10 (.fork 11 (.take 12 (.fork 13 (.done) (.stop))) (.stop)) (.stop)) (.stop)) (.stop)) (.stop))) (.fork 6 (.fork 1 (.fork 8 (.fork 9 (.fork 10 (.fork 11 (.take 12 (.fork 13 (.done) (.stop))) (.stop)) (.stop)) (.stop)) (.stop)) (.fork 8 (.fork 1 (.fork 9 (.fork 10 (.fork 11 (.take 12 (.fork 13 (.done) (.stop))) (.stop)) (.stop)) (.stop)) (.fork 9 (.fork 1 (.fork 10 (.fork 11 (.take 12 (.fork 13 (.done) (.stop))) (.stop)) (.stop)) (.fork 10 (.fork 1 (.fork 11 (.take 12 (.fork 13 (.done) (.stop))) (.stop)) (.stop)) (.stop))) (.stop))) (.stop))) (.fork 8 (.fork 1 (.fork 6 (.fork 9 (.fork 10 (.fork 11 (.take 12 (.fork 13 (.done) (.stop))) (.stop)) (.stop)) (.stop)) (.stop)) (.fork 6 (.fork 1 (.fork 9 (.fork 10 (.fork 11 (.take 12 (.fork 13 (.done) (.stop))) (.stop)) (.stop)) (.stop)) (.fork 9 (.fork 1 (.fork 10 (.fork 11 (.take 12 (.fork 13 (.done) (.stop))) (.stop)) (.stop)) (.fork 10 (.fork 1 (.fork 11 (.take 12 (.fork 13 (.done) (.stop))) (.stop)) (.stop)) (.stop))) (.stop))) (.stop))) (.stop)))) (.fork 8 (.fork 1 (.fork 5 (.fork 6 (.fork 9 (.fork 10 (.fork 11 (.take 12 (.fork 13 (.done) (.stop))) (.stop)) (.stop)) (.stop)) (.stop)) (.stop)) (.fork 5 (.fork 1 (.fork 6 (.fork 9 (.fork 10 (.fork 11 (.take 12 (.fork 13 (.done) (.stop))) (.stop)) (.stop)) (.stop)) (.stop)) (.fork 6 (.fork 1 (.fork 9 (.fork 10 (.fork 11 (.take 12 (.fork 13 (.done) (.stop))) (.stop)) (.stop)) (.stop)) (.fork 9 (.fork 1 (.fork 10 (.fork 11 (.take 12 (.fork 13 (.done) (.stop))) (.stop)) (.stop)) (.fork 10 (.fork 1 (.fork 11 (.take 12 (.fork 13 (.done) (.stop))) (.stop)) (.stop)) (.stop))) (.stop))) (.stop))) (.stop))) (.stop)))) (.fork 5 (.fork 1 (.fork 3 (.fork 6 (.fork 8 (.fork 9 (.fork 10 (.fork 11 (.take 12 (.fork 13 (.done) (.stop))) (.stop)) (.stop)) (.stop)) (.stop)) (.fork 8 (.fork 6 (.fork 9 (.fork 10 (.fork 11 (.take 12 (.fork 13 (.done) (.stop))) (.stop)) (.stop)) (.stop)) (.stop)) (.stop))) (.fork 6 (.fork 3 (.fork 8 (.fork 9 (.fork 10 (.fork 11 (.take 12 (.fork 13 (.done) (.stop))) (.stop)) (.stop)) (.stop)) (.stop)) (.fork 8 (.fork 3 (.fork 9 (.fork 10 (.fork 11 (.take 12 (.fork 13 (.done) (.stop))) (.stop)) (.stop)) (.stop)) (.stop)) (.stop))) (.fork 8 (.fork 3 (.fork 6 (.fork 9 (.fork 10 (.fork 11 (.take 12 (.fork 13 (.done) (.stop))) (.stop)) (.stop)) (.stop)) (.stop)) (.fork 6 (.fork 3 (.fork 9 (.fork 10 (.fork 11 (.take 12 (.fork 13 (.done) (.stop))) (.stop)) (.stop)) (.stop)) (.stop)) (.stop))) (.stop)))) (.fork 3 (.fork 1 (.fork 6 (.fork 8 (.fork 9 (.fork 10 (.fork 11 (.take 12 (.fork 13 (.done) (.stop))) (.stop)) (.stop)) (.stop)) (.stop)) (.fork 8 (.fork 6 (.fork 9 (.fork 10 (.fork 11 (.take 12 (.fork 13 (.done) (.stop))) (.stop)) (.stop)) (.stop)) (.stop)) (.stop))) (.fork 6 (.fork 1 (.fork 8 (.fork 9 (.fork 10 (.fork 11 (.take 12 (.fork 13 (.done) (.stop))) (.stop)) (.stop)) (.stop)) (.stop)) (.fork 8 (.fork 1 (.fork 9 (.fork 10 (.fork 11 (.take 12 (.fork 13 (.done) (.stop))) (.stop)) (.stop)) (.stop)) (.fork 9 (.fork 1 (.fork 10 (.fork 11 (.take 12 (.fork 13 (.done) (.stop))) (.stop)) (.stop)) (.fork 10 (.fork 1 (.fork 11 (.take 12 (.fork 13 (.done) (.stop))) (.stop)) (.stop)) (.stop))) (.stop))) (.stop))) (.fork 8 (.fork 1 (.fork 6 (.fork 9 (.fork 10 (.fork 11 (.take 12 (.fork 13 (.done) (.stop))) (.stop)) (.stop)) (.stop)) (.stop)) (.fork 6 (.fork 1 (.fork 9 (.fork 10 (.fork 11 (.take 12 (.fork 13 (.done) (.stop))) (.stop)) (.stop)) (.stop)) (.fork 9 (.fork 1 (.fork 10 (.fork 11 (.take 12 (.fork 13 (.done) (.stop))) (.stop)) (.stop)) (.fork 10 (.fork 1 (.fork 11 (.take 12 (.fork 13 (.done) (.stop))) (.stop)) (.stop)) (.stop))) (.stop))) (.stop))) (.stop)))) (.fork 6 (.fork 1 (.fork 3 (.fork 8 (.fork 9 (.fork 10 (.fork 11 (.take 12 (.fork 13 (.done) (.stop))) (.stop)) (.stop)) (.stop)) (.stop)) (.fork 8 (.fork 3 (.fork 9 (.fork 10 (.fork 11 (.take 12 (.fork 13 (.done) (.stop))) (.stop)) (.stop)) (.stop)) (.stop)) (.stop))) (.fork 3 (.fork 1 (.fork 8 (.fork 9 (.fork 10 (.fork 11 (.take 12 (.fork 13 (.done) (.stop))) (.stop)) (.stop)) (.stop)) (.stop)) (.fork 8 (.fork 1 (.fork 9 (.fork 10 (.fork 11 (.take 12 (.fork 13 (.done) (.stop))) (.stop)) (.stop)) (.stop)) (.fork 9 (.fork 1 (.fork 10 (.fork 11 (.take 12 (.fork 13 (.done) (.stop))) (.stop)) (.stop)) (.fork 10 (.fork 1 (.fork 11 (.take 12 (.fork 13 (.done) (.stop))) (.stop)) (.stop)) (.stop))) (.stop))) (.stop))) (.fork 8 (.fork 1 (.fork 3 (.fork 9 (.fork 10 (.fork 11 (.take 12 (.fork 13 (.done) (.stop))) (.stop)) (.stop)) (.stop)) (.stop)) (.fork 3 (.fork 1 (.fork 9 (.fork 10 (.fork 11 (.take 12 (.fork 13 (.done) (.stop))) (.stop)) (.stop)) (.stop)) (.fork 9 (.fork 1 (.fork 10 (.fork 11 (.take 12 (.fork 13 (.done) (.stop))) (.stop)) (.stop)) (.fork 10 (.fork 1 (.fork 11 (.take 12 (.fork 13 (.done) (.stop))) (.stop)) (.stop)) (.stop))) (.stop))) (.stop))) (.stop)))) (.fork 8 (.fork 1 (.fork 3 (.fork 6 (.fork 9 (.fork 10 (.fork 11 (.take 12 (.fork 13 (.done) (.stop))) (.stop)) (.stop)) (.stop)) (.stop)) (.fork 6 (.fork 3 (.fork 9 (.fork 10 (.fork 11 (.take 12 (.fork 13 (.done) (.stop))) (.stop)) (.stop)) (.stop)) (.stop)) (.stop))) (.fork 3 (.fork 1 (.fork 6 (.fork 9 (.fork 10 (.fork 11 (.take 12 (.fork 13 (.done) (.stop))) (.stop)) (.stop)) (.stop)) (.stop)) (.fork 6 (.fork 1 (.fork 9 (.fork 10 (.fork 11 (.take 12 (.fork 13 (.done) (.stop))) (.stop)) (.stop)) (.stop)) (.fork 9 (.fork 1 (.fork 10 (.fork 11 (.take 12 (.fork 13 (.done) (.stop))) (.stop)) (.stop)) (.fork 10 (.fork 1 (.fork 11 (.take 12 (.fork 13 (.done) (.stop))) (.stop)) (.stop)) (.stop))) (.stop))) (.stop))) (.fork 6 (.fork 1 (.fork 3 (.fork 9 (.fork 10 (.fork 11 (.take 12 (.fork 13 (.done) (.stop))) (.stop)) (.stop)) (.stop)) (.stop)) (.fork 3 (.fork 1 (.fork 9 (.fork 10 (.fork 11 (.take 12 (.fork 13 (.done) (.stop))) (.stop)) (.stop)) (.stop)) (.fork 9 (.fork 1 (.fork 10 (.fork 11 (.take 12 (.fork 13 (.done) (.stop))) (.stop)) (.stop)) (.fork 10 (.fork 1 (.fork 11 (.take 12 (.fork 13 (.done) (.stop))) (.stop)) (.stop)) (.stop))) (.stop))) (.stop))) (.stop)))) (.stop))))) (.fork 8 (.fork 1 (.fork 3 (.fork 5 (.fork 6 (.fork 9 (.fork 10 (.fork 11 (.take 12 (.fork 13 (.done) (.stop))) (.stop)) (.stop)) (.stop)) (.stop)) (.stop)) (.fork 5 (.fork 3 (.fork 6 (.fork 9 (.fork 10 (.fork 11 (.take 12 (.fork 13 (.done) (.stop))) (.stop)) (.stop)) (.stop)) (.stop)) (.fork 6 (.fork 3 (.fork 9 (.fork 10 (.fork 11 (.take 12 (.fork 13 (.done) (.stop))) (.stop)) (.stop)) (.stop)) (.stop)) (.stop))) (.stop))) (.fork 3 (.fork 1 (.fork 5 (.fork 6 (.fork 9 (.fork 10 (.fork 11 (.take 12 (.fork 13 (.done) (.stop))) (.stop)) (.stop)) (.stop)) (.stop)) (.stop)) (.fork 5 (.fork 1 (.fork 6 (.fork 9 (.fork 10 (.fork 11 (.take 12 (.fork 13 (.done) (.stop))) (.stop)) (.stop)) (.stop)) (.stop)) (.fork 6 (.fork 1 (.fork 9 (.fork 10 (.fork 11 (.take 12 (.fork 13 (.done) (.stop))) (.stop)) (.stop)) (.stop)) (.fork 9 (.fork 1 (.fork 10 (.fork 11 (.take 12 (.fork 13 (.done) (.stop))) (.stop)) (.stop)) (.fork 10 (.fork 1 (.fork 11 (.take 12 (.fork 13 (.done) (.stop))) (.stop)) (.stop)) (.stop))) (.stop))) (.stop))) (.stop))) (.fork 5 (.fork 1 (.fork 3 (.fork 6 (.fork 9 (.fork 10 (.fork 11 (.take 12 (.fork 13 (.done) (.stop))) (.stop)) (.stop)) (.stop)) (.stop)) (.fork 6 (.fork 3 (.fork 9 (.fork 10 (.fork 11 (.take 12 (.fork 13 (.done) (.stop))) (.stop)) (.stop)) (.stop)) (.stop)) (.stop))) (.fork 3 (.fork 1 (.fork 6 (.fork 9 (.fork 10 (.fork 11 (.take 12 (.fork 13 (.done) (.stop))) (.stop)) (.stop)) (.stop)) (.stop)) (.fork 6 (.fork 1 (.fork 9 (.fork 10 (.fork 11 (.take 12 (.fork 13 (.done) (.stop))) (.stop)) (.stop)) (.stop)) (.fork 9 (.fork 1 (.fork 10 (.fork 11 (.take 12 (.fork 13 (.done) (.stop))) (.stop)) (.stop)) (.fork 10 (.fork 1 (.fork 11 (.take 12 (.fork 13 (.done) (.stop))) (.stop)) (.stop)) (.stop))) (.stop))) (.stop))) (.fork 6 (.fork 1 (.fork 3 (.fork 9 (.fork 10 (.fork 11 (.take 12 (.fork 13 (.done) (.stop))) (.stop)) (.stop)) (.stop)) (.stop)) (.fork 3 (.fork 1 (.fork 9 (.fork 10 (.fork 11 (.take 12 (.fork 13 (.done) (.stop))) (.stop)) (.stop)) (.stop)) (.fork 9 (.fork 1 (.fork 10 (.fork 11 (.take 12 (.fork 13 (.done) (.stop))) (.stop)) (.stop)) (.fork 10 (.fork 1 (.fork 11 (.take 12 (.fork 13 (.done) (.stop))) (.stop)) (.stop)) (.stop))) (.stop))) (.stop))) (.stop)))) (.stop)))) (.stop))))))))) (by kernel_rfl) (by kernel_rfl) (by kernel_rfl) ?_)
 | refine nameB_self (b := x.Up) ?_
 | (refine nameB_dec (fun h => ?_) (fun h => ?_) <;> try simp only [lensB] at h)
 | refine splitB_true ?_
 | refine splitB_false ?_
 | refine both_intro ?_ ?_
 | exact True.intro
 | ((refine Loop_nilB 4176 1 60 3 0 rfl rfl rfl (by decide) ?_; refine Loop_prom [(1, ReplicaT.shp)] ⟨⟨_, _, _, rfl, by first | exact prom_nil | exact prom_rep rfl | exact prom_map (fun _ => rfl) | exact prom_one rfl⟩, trivial⟩ ?_; refine Loop_at [2, 3, 12, 13] [16] (Nat) (fun k => True /\ k <= g.Reps.length) (fun k => [(14, .int .i64 (k : Nat))]) (fun k => [(4176, ⟨true, 27, 3, [[.own 1, .int .i64 g.Term, .int .i64 g.Lead]]⟩), (1, ⟨.deep ReplicaT.shp, 60, 3, (g.Reps.take k).map ReplicaT.cells⟩)]) (fun k => g.Reps.length - k) 0 ⟨by first | (simp_all <;> fail) | rfl | fail, trivial⟩ ⟨by first | rfl | exact congrArg (fun e => some (AObj.mk _ _ _ e)) (app_snoc hx rfl) | fail | fail, by first | rfl | exact congrArg (fun e => some (AObj.mk _ _ _ e)) (app_snoc hx rfl) | fail | fail, trivial⟩ (by (try dsimp only); first | trivial | (refine ⟨?_, by omega⟩; simp <;> fail) | (simp <;> fail) | fail) ?_; (conv => whnf); refine side_and (side_of (by first | exact fun k => rfl | exact fun k => by simp [headOk, closedE, closedO, closedL, AV.closed, hcap.closed, hasId, AObj.box, BK.ofB])) ?_; rintro k hT; try dsimp only at hT))
 | (refine Again_of (k + 1) ⟨by first | rfl | exact i64_next (by omega) | (simp_all <;> fail) | fail, trivial⟩ ⟨by first | rfl | exact congrArg (fun e => some (AObj.mk _ _ _ e)) (app_snoc hx rfl) | fail | fail, by first | rfl | exact congrArg (fun e => some (AObj.mk _ _ _ e)) (app_snoc hx rfl) | fail | fail, trivial⟩ (by first | (and_intros <;> first | rfl | trivial) | fail) (by first | (and_intros <;> first | rfl | trivial) | fail) rfl rfl rfl (by (try dsimp only); first | (exact ⟨trivial, by omega⟩) | fail) (show _ < _ by (try dsimp only); omega))
 | refine CallF (c_impl_copyEntries x.Log (rep_log hw hx)) rfl rfl rfl (nbT rfl) ?_
 | (refine ix_map (by omega) (by (try simp only [List.length_take]); omega) (fun x hx => ?_); try simp only [Int.toNat_natCast] at hx)
 | refine sdA ⟨nbT rfl, rfl⟩ ?_
 | refine sdA (by first | exact nbT rfl | exact rfl | omega | fail) ?_
 | refine sdA (by first | (and_intros <;> first | rfl | omega | exact nbT rfl) | fail) ?_
 | refine BuildD_of ReplicaT.shp rfl rfl rfl ?_
 | refine AppD_of rfl (by and_intros <;> first | rfl | decide) (deep_app (L := (g.Reps.take k).map ReplicaT.cells) rfl rfl (by rw [List.length_map, List.length_take]; omega) (nbT rfl)) ?_
 | fail
  all_goals
    conv => whnf
    exact OutA_deep rfl rfl rfl ⟨⟨congrArg (fun e => some (AObj.mk _ _ _ e)) (full_take (by omega)), rfl⟩, trivial⟩ rfl
theorem rep_logS {g : GroupT} {x : ReplicaT} {k : Nat} (hw : GB g) (h : g.Reps[k]? = some x) : wL EntryT.w x.Log <= 1048576 := rep_w hw (mgE h)
theorem big_appS {L M : List (List AV)} {b : Nat} (hM : M.length = 1) (hL : L.length <= 1048576) (hb : b <= 4096) : L.length + M.length <= 70368744177664 /\ (L.length + M.length) * b <= 140737488355328 := by
  rw [hM]
  exact ⟨by omega, Nat.le_trans (Nat.mul_le_mul (Nat.succ_le_succ hL) hb) (nbT rfl)⟩
theorem big_mapS {α : Type} {f : α -> List AV} {L : List α} {b : Nat} (hL : L.length <= 1048576) (hb : b <= 4096) : (L.map f).length <= 70368744177664 /\ (L.map f).length * b <= 140737488355328 := by
  rw [List.length_map]
  exact ⟨by omega, Nat.le_trans (Nat.mul_le_mul hL hb) (nbT rfl)⟩
theorem c_spec_l9OwnLog (xs : List EntryT) (hw : wL EntryT.w xs <= 1048576) : PC Tryz.prog true 45 [.sl (xs.map EntryT.cells)] (.sl (xs.map EntryT.cells)) [] := by
  have hl : xs.length <= 1048576 := Nat.le_trans wL_len hw
  refine pc_at Tryz.func45 rfl (by kernel_rfl) 36 [.tmp 2] rfl rfl ?_
  repeat' (conv => whnf); first
 | refine side_and (side_of (big_appS (L := (xs.take k).map EntryT.cells) rfl (by rw [List.length_map, List.length_take]; omega) (nbT rfl))) ?_
 | refine side_and (side_of (one_lenC rfl rfl)) ?_
 | refine sdA (by first | (and_intros <;> first | exact nbT rfl | rfl | (intro e; exact absurd (AV.own.inj e) (by decide)) | (intro e; exact AV.noConfusion e)) | fail) ?_
 | exact side_of (big_mapS (f := strC) (ent_len (log_mem hw hx)).2 (nbT rfl))
 | exact side_of (big_mapS (f := WriteT.cells) (ent_len (log_mem hw hx)).1 (nbT rfl))
 | (refine nameB_dec (fun h => ?_) (fun h => ?_) <;> try simp only [lensB] at h)
 | refine splitB_true ?_
 | refine splitB_false ?_
 | refine eitherB_l ?_
 | ((refine Loop_nil 3 1 50 8 rfl rfl (by decide) ?_; refine Loop_at [0] [] (Nat) (fun k => True /\ k <= xs.length) (fun k => [(3, .own 1), (4, .int .i64 (k : Nat))]) (fun k => [(1, ⟨false, 50, 8, (xs.take k).map EntryT.cells⟩)]) (fun k => xs.length - k) 0 ⟨by first | rfl | (simp_all <;> fail) | fail, by first | (simp_all <;> fail) | rfl | fail, trivial⟩ ⟨by first | rfl | exact congrArg (fun e => some (AObj.mk _ _ _ e)) (app_snoc hx rfl) | fail | fail, trivial⟩ (by (try dsimp only); first | trivial | (refine ⟨?_, by omega⟩; simp <;> fail) | (simp <;> fail) | fail) ?_; (conv => whnf); refine side_and (side_of (by first | exact fun k => rfl | exact fun k => by simp [headOk, closedE, closedO, closedL, AV.closed, hcap.closed, hasId, AObj.box, BK.ofB])) ?_; rintro k hT; try dsimp only at hT))
 | (refine Again_of (k + 1) ⟨by first | rfl | (simp_all <;> fail) | fail, by first | rfl | exact i64_next (by omega) | (simp_all <;> fail) | fail, trivial⟩ ⟨by first | rfl | exact congrArg (fun e => some (AObj.mk _ _ _ e)) (app_snoc hx rfl) | fail | fail, trivial⟩ (by first | (and_intros <;> first | rfl | trivial) | fail) (by first | (and_intros <;> first | rfl | trivial) | fail) rfl rfl rfl (by (try dsimp only); first | (exact ⟨trivial, by omega⟩) | fail) (show _ < _ by (try dsimp only); omega))
 | (refine ix_map (by omega) (by (try simp only [List.length_take]); omega) (fun x hx => ?_); try simp only [Int.toNat_natCast] at hx)
 | refine side_and (side_of (map_len (fun _ => rfl))) ?_
 | refine side_and (side_of (map_one (fun _ => rfl) _)) ?_
 | refine side_and ?_ ?_
 | fail
  all_goals
    conv => whnf
    refine OutA_frz [1] ?_
    conv => whnf
    exact OutA_plain rfl rfl (congrArg AV.sl (full_take (by omega)))
theorem c_spec_l9Own (g : GroupT) (hw : GB g) : PC Tryz.prog true 44 [.agg g.cells] (.agg [.own 0, .int .i64 g.Term, .int .i64 g.Lead]) [⟨false, 60, 3, g.Reps.map ReplicaT.cells⟩] := by
  have hl := reps_len hw
  refine pc_at Tryz.func44 rfl (by kernel_rfl) 44 [.cell 2 27] rfl rfl ?_
  repeat' (conv => whnf); first
 | (show Go.Ab.drawA _ _ _ _ _; refine draw_tail 23 (by kernel_rfl) (by kernel_rfl) (by kernel_rfl) ?_)
 | refine nameB_self (b := x.Up) ?_
 | refine side_and (side_of (big_appS (L := (g.Reps.take k).map ReplicaT.cells) rfl (by rw [List.length_map, List.length_take]; omega) (nbT rfl))) ?_
 | refine side_and (side_of (one_lenC rfl rfl)) ?_
 | refine sdA (by first | (and_intros <;> first | exact nbT rfl | rfl | (intro e; exact absurd (AV.own.inj e) (by decide)) | (intro e; exact AV.noConfusion e)) | fail) ?_
 | (refine nameB_dec (fun h => ?_) (fun h => ?_) <;> try simp only [lensB] at h)
 | refine splitB_true ?_
 | refine splitB_false ?_
 | ((refine Loop_nilB 4192 1 60 3 0 rfl rfl rfl (by decide) ?_; refine Loop_at [1, 2, 3] [0, 16] (Nat) (fun k => True /\ k <= g.Reps.length) (fun k => [(4, .int .i64 (k : Nat))]) (fun k => [(4192, ⟨true, 27, 3, [[.own 1, .int .i64 g.Term, .int .i64 g.Lead]]⟩), (1, ⟨false, 60, 3, (g.Reps.take k).map ReplicaT.cells⟩)]) (fun k => g.Reps.length - k) 0 ⟨by first | (simp_all <;> fail) | rfl | fail, trivial⟩ ⟨by first | rfl | exact congrArg (fun e => some (AObj.mk _ _ _ e)) (app_snoc hx rfl) | fail | fail, by first | rfl | exact congrArg (fun e => some (AObj.mk _ _ _ e)) (app_snoc hx rfl) | fail | fail, trivial⟩ (by (try dsimp only); first | trivial | (refine ⟨?_, by omega⟩; simp <;> fail) | (simp <;> fail) | fail) ?_; (conv => whnf); refine side_and (side_of (by first | exact fun k => rfl | exact fun k => by simp [headOk, closedE, closedO, closedL, AV.closed, hcap.closed, hasId, AObj.box, BK.ofB])) ?_; rintro k hT; try dsimp only at hT))
 | (refine Again_of (k + 1) ⟨by first | rfl | exact i64_next (by omega) | (simp_all <;> fail) | fail, trivial⟩ ⟨by first | rfl | exact congrArg (fun e => some (AObj.mk _ _ _ e)) (app_snoc hx rfl) | fail | fail, by first | rfl | exact congrArg (fun e => some (AObj.mk _ _ _ e)) (app_snoc hx rfl) | fail | fail, trivial⟩ (by first | (and_intros <;> first | rfl | trivial) | fail) (by first | (and_intros <;> first | rfl | trivial) | fail) rfl rfl rfl (by (try dsimp only); first | (exact ⟨trivial, by omega⟩) | fail) (show _ < _ by (try dsimp only); omega))
 | refine CallDT (c_spec_l9OwnLog x.Log (rep_logS hw hx)) rfl rfl rfl ⟨rfl, rfl⟩ ?_
 | refine ix_map_at hx ?_
 | (refine ix_map (by omega) (by (try simp only [List.length_take]); omega) (fun x hx => ?_); try simp only [Int.toNat_natCast] at hx)
 | refine LoadK_of rfl rfl ?_
 | fail
  all_goals
    conv => whnf
    exact OutA_ids rfl rfl rfl ⟨⟨_, _, _, rfl, congrArg (AObj.mk false _ _) (full_take (by omega)).symm⟩, trivial⟩ rfl (.inl rfl)
def okUp (g : GroupT) (r : Int) (up : Bool) : Bool := okGroup g && (isRep g r && (upAt g r == up))
def zeroG : GroupT := ⟨[], 0, 0⟩
def setRep (g : GroupT) (r : Int) (f : ReplicaT -> ReplicaT) : List ReplicaT := match g.Reps[r.toNat]? with | some y => g.Reps.set r.toNat (f y) | none => g.Reps
theorem setRep_of {g : GroupT} {r : Int} {y : ReplicaT} {f : ReplicaT -> ReplicaT} (h : g.Reps[r.toNat]? = some y) : setRep g r f = g.Reps.set r.toNat (f y) := by
  unfold setRep
  rw [h]
theorem setRep_cells {g : GroupT} {r : Int} {y : ReplicaT} {f : ReplicaT -> ReplicaT} {c : List AV} (h : g.Reps[r.toNat]? = some y) (hc : c = (f y).cells) : (g.Reps.map ReplicaT.cells).set r.toNat c = (setRep g r f).map ReplicaT.cells := by
  rw [setRep_of h, List.map_set, hc]
theorem ix_own {α : Type} {f : α -> List AV} {xs : List α} {n : Nat} {Q : List AV -> Prop} (h : n < xs.length) (hQ : ∀ x, xs[n]? = some x -> Q (f x)) : ∃ e, (xs.map f)[n]? = some e /\ Q e :=
  ⟨f xs[n], by simp [h], hQ _ (by simp [h])⟩
theorem ix_ownat {α : Type} {f : α -> List AV} {xs : List α} {n : Nat} {x : α} {Q : List AV -> Prop} (hx : xs[n]? = some x) (hQ : Q (f x)) : ∃ e, (xs.map f)[n]? = some e /\ Q e := ⟨f x, by simp [hx], hQ⟩
def crashN (g : GroupT) (r : Int) : GroupT := ⟨setRep g r fun y => { y with Up := false }, g.Term, if g.Lead = r then -1 else g.Lead⟩
def resG (b : Bool) (g : GroupT) : GroupT := match b with | true => g | false => zeroG
def crashR (g : GroupT) (r : Int) : GroupT := resG (okUp g r true) (crashN g r)
theorem resG_yes {b : Bool} {g : GroupT} (h : b = true) : resG b g = g := by rw [h]; rfl
theorem resG_no {b : Bool} {g : GroupT} (h : b = false) : resG b g = zeroG := by rw [h]; rfl
theorem c_spec_l9Up (g : GroupT) (r : Int) (up : Bool) (hok : g.ok) (hw : GB g) : PC Tryz.prog false 104 [.agg g.cells, .int .i64 r, .bool up] (.bool (okUp g r up)) [] := by
  have hl := reps_len hw
  have hs : IntKind.i64.wrap ((g.Reps.length : Int) - 1) = (g.Reps.length : Int) - 1 := i64_wrap (by omega) (by omega)
  refine pc_at Tryz.func104 rfl (by kernel_rfl) 27 [.tmp 6] rfl rfl ?_
  repeat' (conv => whnf); first
 | refine ix_as (f := ReplicaT.cells) (m := r.toNat) (by have h9 := isRep_lt (g := g) (n := r) (by unfold isRep; rw [<- hs]; assumption); omega) (by have h9 := isRep_lt (g := g) (n := r) (by unfold isRep; rw [<- hs]; assumption); omega) (fun y hy => ?_)
 | refine nameB_self (b := y.Up) ?_
 | refine nameB_self (b := y.Up == up) ?_
 | (refine nameB_cases (b := okGroup g) (fun h => ?_) (fun h => ?_))
 | (refine nameB_cases (fun h => ?_) (fun h => ?_) <;> try simp only [nmL, lensB] at h)
 | refine splitB_true ?_
 | refine splitB_false ?_
 | refine Call0 (c_spec_GoodGroup g hok hw) rfl rfl ?_
 | refine Call0 (c_spec_l1In ..) rfl rfl ?_
 | refine sdA (by first | exact nbT rfl | exact rfl | omega | fail) ?_
 | fail
  all_goals
    (try have hyu := upAt_of hy)
    conv => whnf
    refine OutA_plain rfl rfl ?_
    first
    | (simp_all [okUp, isRep, named, AV.sub, AV.sub.subL]; done)
theorem crash_tup {g : GroupT} {r : Int} {y : ReplicaT} {L : Int} {c : List AV} (h : okUp g r true = true) (hy : g.Reps[r.toNat]? = some y) (hl : L = if g.Lead = r then -1 else g.Lead) (hc : c = ({ y with Up := false } : ReplicaT).cells) :
    AV.tup [.agg [.sl ((g.Reps.map ReplicaT.cells).set r.toNat c), .int .i64 g.Term, .int .i64 L], .bool true] = .tup [.agg (crashR g r).cells, .bool (okUp g r true)] := by
  rw [crashR, resG_yes h, h, hl, setRep_cells (f := fun y => { y with Up := false }) hy hc]
  rfl
theorem okUp_lt {g : GroupT} {r : Int} {b : Bool} (h : okUp g r b = true) : 0 <= r /\ r.toNat < g.Reps.length := by
  unfold okUp at h
  simp only [baT] at h
  exact isRep_lt h.2.1
theorem okUp_side {g : GroupT} {r : Int} {b : Bool} (h : okUp g r b = true) : 0 <= r /\ r < ((g.Reps.map ReplicaT.cells).length : Int) := by
  have := okUp_lt h
  rw [List.length_map]
  omega
theorem c_spec_CrashRep (g : GroupT) (r : Int) (hok : g.ok) (hw : GB g) : PC Tryz.prog true 64 [.agg g.cells, .int .i64 r] (.tup [.agg (crashR g r).cells, .bool (okUp g r true)]) [] := by
  have hl := reps_len hw
  refine pc_at Tryz.func64 rfl (by kernel_rfl) 25 [.cell 4 27, .tmp 5] rfl rfl ?_
  repeat' (conv => whnf); first
 | exact side_of (okUp_side (b := true) ‹_›)
 | refine ix_own (f := ReplicaT.cells) (xs := g.Reps) (okUp_lt (b := true) ‹_›).2 (fun y hy => ?_)
 | (refine nameB_cases (b := okUp g r true) (fun h => ?_) (fun h => ?_))
 | refine nameB_true ?_
 | refine nameB_false ?_
 | (refine nameB_dec (fun h => ?_) (fun h => ?_) <;> try simp only [lensB] at h)
 | refine splitB_true ?_
 | refine splitB_false ?_
 | refine Call0 (c_spec_l9Up g r true hok hw) rfl rfl ?_
 | refine CallT (c_spec_l9Own g hw) rfl rfl rfl rfl (nbT rfl) ?_
 | refine sdA ⟨nbT rfl, rfl⟩ ?_
 | refine sdA (by first | exact nbT rfl | exact rfl | omega | fail) ?_
 | refine sdA (by first | (and_intros <;> first | rfl | omega | exact nbT rfl) | fail) ?_
 | refine side_and ?_ ?_
 | fail
  all_goals
    conv => whnf
    first
    | (refine OutA_frz [12304] ?_; (conv => whnf); refine OutA_plain rfl rfl ?_; first | exact crash_tup ‹_› hy (if_pos ‹_›).symm rfl | exact crash_tup ‹_› hy (if_neg ‹_›).symm rfl)
    | (rw [crashR, resG_no ‹_›, (by assumption : okUp g r true = false)]; refine OutA_nilB 16 1 60 3 0 rfl rfl rfl (by decide) ?_; refine OutA_frz [1] ?_; (conv => whnf); exact OutA_plain rfl rfl rfl)
theorem crashR_yes1 {g : GroupT} {r : Int} (h : okUp g r true = true) (h1 : g.Lead = r) : crashR g r = ⟨setRep g r fun y => { y with Up := false }, g.Term, -1⟩ := by rw [crashR, resG_yes h, crashN, if_pos h1]
theorem crashR_yes2 {g : GroupT} {r : Int} (h : okUp g r true = true) (h1 : ¬ g.Lead = r) : crashR g r = ⟨setRep g r fun y => { y with Up := false }, g.Term, g.Lead⟩ := by rw [crashR, resG_yes h, crashN, if_neg h1]
theorem crashR_no {g : GroupT} {r : Int} (h : okUp g r true = false) : crashR g r = ⟨[], 0, 0⟩ := by rw [crashR, resG_no h]; rfl
theorem upI {g : GroupT} {r : Int} (h1 : okGroup g = true) (h2 : isRep g r = true) (h3 : upAt g r = true) : okUp g r true = true := by unfold okUp; rw [h1, h2, h3]; rfl
theorem upI_no {g : GroupT} {r : Int} (h : okGroup g = false \/ isRep g r = false \/ upAt g r = false) : okUp g r true = false := by
  unfold okUp
  rcases h with h | h | h <;> simp [h]
theorem isRep_side {g : GroupT} {r : Int} (h : isRep g r = true) : 0 <= r /\ r < ((g.Reps.map ReplicaT.cells).length : Int) := by
  have := isRep_lt h
  rw [List.length_map]
  omega
theorem c_impl_CrashRep (g : GroupT) (r : Int) (hok : g.ok) (hw : GB g) : PC Tryz.prog false 54 [.agg g.cells, .int .i64 r] (.tup [.agg [.own 0, .int .i64 (crashR g r).Term, .int .i64 (crashR g r).Lead], .bool (okUp g r true)]) [⟨.deep ReplicaT.shp, 60, 3, (crashR g r).Reps.map ReplicaT.cells⟩] := by
  have hl := reps_len hw
  refine pc_at Tryz.func54 rfl (by kernel_rfl) 39 [.cell 4 27, .tmp 5] rfl rfl ?_
  repeat' (conv => whnf); first
 | refine ix_as (f := ReplicaT.cells) (m := r.toNat) (by have h9 := isRep_lt (g := g) (n := r) ‹_›; omega) (by have h9 := isRep_lt (g := g) (n := r) ‹_›; omega) (fun y hy => ?_)
 | refine nameB_self (b := y.Up) ?_
 | exact side_of (isRep_side ‹_›)
 | refine ix_ownat (f := ReplicaT.cells) (xs := g.Reps) hy ?_
 | (refine nameB_cases (b := okGroup g) (fun h => ?_) (fun h => ?_))
 | (refine nameB_cases (b := isRep g r) (fun h => ?_) (fun h => ?_))
 | refine nameB_true ?_
 | refine nameB_false ?_
 | (refine nameB_dec (fun h => ?_) (fun h => ?_) <;> try simp only [lensB] at h)
 | (refine nameB_cases (fun h => ?_) (fun h => ?_) <;> try simp only [nmL, lensB] at h)
 | refine splitB_true ?_
 | refine splitB_false ?_
 | refine Call0 (c_impl_GoodGroup g hok hw) rfl rfl ?_
 | refine Call0 (c_impl_Group_isRep g r hw) rfl rfl ?_
 | refine CallF (c_impl_copyGroup g hw) rfl rfl rfl (nbT rfl) ?_
 | refine sdA ⟨nbT rfl, rfl⟩ ?_
 | refine sdA (by first | exact nbT rfl | exact rfl | omega | fail) ?_
 | refine sdA (by first | (and_intros <;> first | rfl | omega | exact nbT rfl) | fail) ?_
 | refine side_and ?_ ?_
 | refine StoreD_of rfl rfl rfl ?_
 | fail
  all_goals
    (try have hyu := upAt_of hy)
    conv => whnf
    first
    | (have h0 : okUp g r true = true := upI ‹_› ‹_› (hyu.trans ‹_›); first | (rw [h0, crashR_yes1 h0 ‹_›]; exact OutA_deep rfl rfl rfl ⟨⟨congrArg (fun e => some (AObj.mk _ _ _ e)) (setRep_cells (f := fun y => { y with Up := false }) hy rfl), rfl⟩, trivial⟩ rfl) | (rw [h0, crashR_yes2 h0 ‹_›]; exact OutA_deep rfl rfl rfl ⟨⟨congrArg (fun e => some (AObj.mk _ _ _ e)) (setRep_cells (f := fun y => { y with Up := false }) hy rfl), rfl⟩, trivial⟩ rfl))
    | (have h0 : okUp g r true = false := upI_no (by first | exact .inl ‹_› | exact .inr (.inl ‹_›) | exact .inr (.inr (hyu.trans ‹_›))); rw [h0, crashR_no h0]; refine OutA_nilB 16 1 60 3 0 rfl rfl rfl (by decide) ?_; refine OutA_prom [(1, ReplicaT.shp)] ⟨⟨_, _, _, rfl, prom_nil⟩, trivial⟩ ?_; (conv => whnf); exact OutA_deep rfl rfl rfl ⟨⟨rfl, rfl⟩, trivial⟩ rfl)
def cntR (q : ReplicaT -> Bool) (l : List ReplicaT) : Nat := (l.filter q).length
theorem cntR_yes {q : ReplicaT -> Bool} {l : List ReplicaT} {k : Nat} {x : ReplicaT} (hx : l[k]? = some x) (h : q x = true) : cntR q (l.take (k + 1)) = cntR q (l.take k) + 1 := by
  unfold cntR
  rw [take_get hx, List.filter_append, laT]
  simp [h]
theorem cntR_no {q : ReplicaT -> Bool} {l : List ReplicaT} {k : Nat} {x : ReplicaT} (hx : l[k]? = some x) (h : q x = false) : cntR q (l.take (k + 1)) = cntR q (l.take k) := by
  unfold cntR
  rw [take_get hx, List.filter_append, laT]
  simp [h]
theorem cntR_le {q : ReplicaT -> Bool} {l : List ReplicaT} {k : Nat} : cntR q (l.take k) <= l.length := by
  have h1 := List.length_filter_le q (l.take k)
  rw [List.length_take] at h1
  unfold cntR
  omega
theorem cntR_inc {q : ReplicaT -> Bool} {l : List ReplicaT} {k : Nat} {x : ReplicaT} (hl : l.length <= 1048576) (hx : l[k]? = some x) (h : q x = true) : IntKind.i64.wrap ((cntR q (l.take k) : Int) + 1) = (cntR q (l.take (k + 1)) : Int) := by
  have := cntR_le (q := q) (l := l) (k := k)
  rw [cntR_yes hx h, i64_wrap (by omega) (by omega)]
  omega
theorem cntR_end {q : ReplicaT -> Bool} {l : List ReplicaT} {k : Nat} (h : ¬ (k : Int) < l.length) : cntR q (l.take k) = cntR q l := by rw [List.take_of_length_le (by omega)]
def most (g : GroupT) (q : ReplicaT -> Bool) : Bool := decide (2 * (cntR q g.Reps : Int) > (g.Reps.length : Int))
theorem most_of {g : GroupT} {q : ReplicaT -> Bool} {k : Nat} (hl : g.Reps.length <= 1048576) (h : ¬ (k : Int) < g.Reps.length) : IntKind.i64.wrap (2 * (cntR q (g.Reps.take k) : Int)) = 2 * (cntR q g.Reps : Int) := by
  have := cntR_le (q := q) (l := g.Reps) (k := k)
  rw [cntR_end h] at this ⊢
  exact i64_wrap (by omega) (by omega)
theorem c_impl_Group_isMost (g : GroupT) (f : Nat) (caps : List AV) (q : ReplicaT -> Bool) (hw : GB g) (hcap : Caps caps) (hq : ∀ x ∈ g.Reps, PC Tryz.prog false f (.agg x.cells :: caps) (.bool (q x)) []) : PC Tryz.prog false 117 [.agg g.cells, .fn f caps] (.bool (most g q)) [] := by
  have hl := reps_len hw
  refine pc_at Tryz.func117 rfl (by kernel_rfl) 27 [.tmp 4] rfl rfl ?_
  repeat' (conv => whnf); first
 | (refine nameB_cases (b := q x) (fun h => ?_) (fun h => ?_))
 | (refine nameB_dec (fun h => ?_) (fun h => ?_) <;> try simp only [lensB] at h)
 | refine splitB_true ?_
 | refine splitB_false ?_
 | ((refine Loop_at [1, 2, 9, 10] [0] (Nat) (fun k => k <= g.Reps.length) (fun k => [(5, .int .i64 (cntR q (g.Reps.take k) : Nat)), (11, .int .i64 (k : Nat))]) (fun k => []) (fun k => g.Reps.length - k) 0 ⟨by first | first | rfl | exact congrArg (AV.int .i64) (cntR_inc hl hx ‹_›) | exact congrArg (fun n : Nat => AV.int .i64 (n : Int)) (cntR_no hx ‹_›).symm | rfl | fail, by first | first | rfl | exact congrArg (AV.int .i64) (cntR_inc hl hx ‹_›) | exact congrArg (fun n : Nat => AV.int .i64 (n : Int)) (cntR_no hx ‹_›).symm | rfl | fail, trivial⟩ trivial (by (try dsimp only); first | (exact Nat.zero_le _) | fail) ?_; (conv => whnf); refine side_and (side_of (by first | exact fun k => rfl | exact fun k => by simp [headOk, closedE, closedO, closedL, AV.closed, hcap.closed, hasId, AObj.box, BK.ofB])) ?_; rintro k hT; try dsimp only at hT))
 | (refine Again_of (k + 1) ⟨by first | first | rfl | exact congrArg (AV.int .i64) (cntR_inc hl hx ‹_›) | exact congrArg (fun n : Nat => AV.int .i64 (n : Int)) (cntR_no hx ‹_›).symm | rfl | fail, by first | rfl | exact i64_next (by omega) | first | rfl | exact congrArg (AV.int .i64) (cntR_inc hl hx ‹_›) | exact congrArg (fun n : Nat => AV.int .i64 (n : Int)) (cntR_no hx ‹_›).symm | fail, trivial⟩ trivial (by first | (and_intros <;> first | rfl | trivial) | fail) (by first | (and_intros <;> first | rfl | trivial) | fail) rfl rfl rfl (by (try dsimp only); first | ((show k + 1 <= _; omega)) | fail) (show _ < _ by (try dsimp only); omega))
 | refine Call0 (hq x (mgE hx)) (congrArg (List.cons _) (hcap.same _)) (hcap.known _) ?_
 | (refine ix_map (by omega) (by (try simp only [List.length_take]); omega) (fun x hx => ?_); try simp only [Int.toNat_natCast] at hx)
 | refine sdA ⟨nbT rfl, rfl⟩ ?_
 | refine sdA (by first | exact nbT rfl | exact rfl | omega | fail) ?_
 | refine sdA (by first | (and_intros <;> first | rfl | omega | exact nbT rfl) | fail) ?_
 | fail
  all_goals
    have hm := most_of (q := q) hl ‹_›
    conv => whnf
    refine OutA_plain rfl rfl ?_
    first
    | (have h9 : 2 * (cntR q g.Reps : Int) > (g.Reps.length : Int) := (by rw [<- hm]; assumption); simp only [most, h9, decide_true]; rfl)
    | (have h9 : ¬ (2 * (cntR q g.Reps : Int) > (g.Reps.length : Int)) := (by rw [<- hm]; assumption); simp only [most, h9, decide_false]; rfl)
def lastE (l : List EntryT) : Int := match l.getLast? with | some e => e.Term | none => 0
theorem lastE_nil {l : List EntryT} (h : (l.length : Int) = 0) : lastE l = 0 := by
  have : l = [] := List.length_eq_zero_iff.1 (by omega)
  rw [this]
  rfl
theorem lastE_at {l : List EntryT} {e : EntryT} (h : l[l.length - 1]? = some e) : lastE l = e.Term := by
  unfold lastE
  rw [List.getLast?_eq_getElem?, h]
theorem c_impl_lastTerm (l : List EntryT) (hl : l.length <= 1048576) : PC Tryz.prog false 72 [.sl (l.map EntryT.cells)] (.int .i64 (lastE l)) [] := by
  refine pc_at Tryz.func72 rfl (by kernel_rfl) 13 [.tmp 2] rfl rfl ?_
  repeat' (conv => whnf); first
 | refine ix_as (f := EntryT.cells) (m := l.length - 1) (by simp only [i64_wrap_eq, List.length_map]; omega) (by omega) (fun e he => ?_)
 | (refine nameB_dec (fun h => ?_) (fun h => ?_) <;> try simp only [lensB] at h)
 | refine splitB_true ?_
 | refine splitB_false ?_
 | refine sdA (by first | exact nbT rfl | exact rfl | omega | fail) ?_
 | fail
  all_goals
    conv => whnf
    refine OutA_plain rfl rfl ?_
    first
    | exact congrArg (AV.int .i64) (lastE_at he).symm
    | exact congrArg (AV.int .i64) (lastE_nil ‹_›).symm
theorem c_spec_l9Last (l : List EntryT) (hl : l.length <= 1048576) : PC Tryz.prog false 101 [.sl (l.map EntryT.cells)] (.int .i64 (lastE l)) [] := by
  refine pc_at Tryz.func101 rfl (by kernel_rfl) 13 [.tmp 2] rfl rfl ?_
  repeat' (conv => whnf); first
 | refine ix_as (f := EntryT.cells) (m := l.length - 1) (by simp only [i64_wrap_eq, List.length_map]; omega) (by omega) (fun e he => ?_)
 | (refine nameB_dec (fun h => ?_) (fun h => ?_) <;> try simp only [lensB] at h)
 | refine splitB_true ?_
 | refine splitB_false ?_
 | refine sdA (by first | exact nbT rfl | exact rfl | omega | fail) ?_
 | fail
  all_goals
    conv => whnf
    refine OutA_plain rfl rfl ?_
    first
    | exact congrArg (AV.int .i64) (lastE_at he).symm
    | exact congrArg (AV.int .i64) (lastE_nil ‹_›).symm
def newer (a b : List EntryT) : Bool := decide (lastE a > lastE b) || (decide (lastE a = lastE b) && decide ((a.length : Int) > (b.length : Int)))
theorem c_impl_isNewer (a b : List EntryT) (ha : a.length <= 1048576) (hb : b.length <= 1048576) : PC Tryz.prog false 119 [.sl (a.map EntryT.cells), .sl (b.map EntryT.cells)] (.bool (newer a b)) [] := by
  refine pc_at Tryz.func119 rfl (by kernel_rfl) 24 [.tmp 4] rfl rfl ?_
  repeat' (conv => whnf); first
 | (refine nameB_dec (fun h => ?_) (fun h => ?_) <;> try simp only [lensB] at h)
 | refine splitB_true ?_
 | refine splitB_false ?_
 | refine Call0 (c_impl_lastTerm a ha) rfl rfl ?_
 | refine Call0 (c_impl_lastTerm b hb) rfl rfl ?_
 | fail
  all_goals
    conv => whnf
    refine OutA_plain rfl rfl ?_
    first
    | (simp_all [newer, named, AV.sub, AV.sub.subL]; done)
    | (simp_all [newer, named, AV.sub, AV.sub.subL] <;> omega)
theorem c_spec_l9Later (a b : List EntryT) (ha : a.length <= 1048576) (hb : b.length <= 1048576) : PC Tryz.prog false 121 [.sl (a.map EntryT.cells), .sl (b.map EntryT.cells)] (.bool (newer a b)) [] := by
  refine pc_at Tryz.func121 rfl (by kernel_rfl) 20 [.tmp 4] rfl rfl ?_
  repeat' (conv => whnf); first
 | (refine nameB_dec (fun h => ?_) (fun h => ?_) <;> try simp only [lensB] at h)
 | (refine nameB_cases (fun h => ?_) (fun h => ?_) <;> try simp only [nmL, lensB] at h)
 | refine splitB_true ?_
 | refine splitB_false ?_
 | refine Call0 (c_spec_l9Last a ha) rfl rfl ?_
 | refine Call0 (c_spec_l9Last b hb) rfl rfl ?_
 | fail
  all_goals
    conv => whnf
    refine OutA_plain rfl rfl ?_
    first
    | (simp_all [newer, named, AV.sub, AV.sub.subL]; done)
    | (simp_all [newer, named, AV.sub, AV.sub.subL] <;> omega)
theorem okLead_lt {g : GroupT} (h : okGroup g = true) (h0 : ¬ g.Lead < 0) : 0 <= g.Lead /\ g.Lead.toNat < g.Reps.length := by
  unfold okGroup okLead at h
  simp only [baT, Bool.or_eq_true, decide_eq_true_eq] at h
  rcases h.1.2 with h | h
  · omega
  · exact isRep_lt h.1
theorem c_EqualFunc_Entry (xs ys : List EntryT) (f : Nat) (hl : xs.length <= 9223372036854775807) (hq : ∀ x ∈ xs, ∀ y ∈ ys, PC Tryz.prog false f [.agg x.cells, .agg y.cells] (.bool (decide (x = y))) []) : PC Tryz.prog false 106 [.sl (xs.map EntryT.cells), .sl (ys.map EntryT.cells), .fn f []] (.bool (decide (xs = ys))) [] := by
  refine pc_at Tryz.func106 rfl (by kernel_rfl) 32 [.tmp 6] rfl rfl ?_
  repeat' (conv => whnf); first
 | refine nameB_true ?_
 | refine nameB_false ?_
 | (refine nameB_dec (fun h => ?_) (fun h => ?_) <;> try simp only [lensB] at h)
 | (refine nameB_cases (fun h => ?_) (fun h => ?_) <;> try simp only [nmL, lensB] at h)
 | refine splitB_true ?_
 | refine splitB_false ?_
 | ((refine Loop_at [1, 2, 15, 16] [] (Nat) (fun k => xs.take k = ys.take k /\ k <= xs.length) (fun k => [(17, .int .i64 (k : Nat))]) (fun k => []) (fun k => xs.length - k) 0 ⟨by first | (simp_all <;> fail) | rfl | fail, trivial⟩ trivial (by (try dsimp only); first | trivial | (refine ⟨?_, by omega⟩; simp <;> fail) | (simp <;> fail) | fail) ?_; (conv => whnf); refine side_and (side_of (by first | exact fun k => rfl | exact fun k => by simp [headOk, closedE, closedO, closedL, AV.closed, hcap.closed, hasId, AObj.box, BK.ofB])) ?_; rintro k hT; try dsimp only at hT))
 | (refine Again_of (k + 1) ⟨by first | rfl | exact i64_next (by omega) | (simp_all <;> fail) | fail, trivial⟩ trivial (by first | (and_intros <;> first | rfl | trivial) | fail) (by first | (and_intros <;> first | rfl | trivial) | fail) rfl rfl rfl (by (try dsimp only); first | (exact ⟨take_next hT.1 hx hy (by first | assumption | (cases x; cases y; simp_all)), by omega⟩) | fail) (show _ < _ by (try dsimp only); omega))
 | refine Call0 (hq x (mgE hx) y (mgE hy)) rfl rfl ?_
 | (refine ix_map2 hx (by omega) (by (try simp only [List.length_take]); omega) (fun y hy => ?_); try simp only [Int.toNat_natCast] at hy)
 | (refine ix_map (by omega) (by (try simp only [List.length_take]); omega) (fun x hx => ?_); try simp only [Int.toNat_natCast] at hx)
 | refine sdA ⟨nbT rfl, rfl⟩ ?_
 | refine sdA (by first | exact nbT rfl | exact rfl | omega | fail) ?_
 | refine sdA (by first | (and_intros <;> first | rfl | omega | exact nbT rfl) | fail) ?_
 | fail
  all_goals
    conv => whnf
    refine OutA_plain rfl rfl ?_
    first
    | exact bool_no (len_ne (by omega))
    | exact bool_no (get_ne hx hy (by first | assumption | (intro e; subst e; simp_all)))
    | exact bool_yes (take_all_eq hT.1 (by omega) (by omega))
theorem c_impl_sameEntry (x y : EntryT) (hok : x.ok) : PC Tryz.prog false 107 [.agg x.cells, .agg y.cells] (.bool (decide (x = y))) [] := by
  refine pc_at Tryz.func107 rfl (by kernel_rfl) 17 [.tmp 4] rfl rfl ?_
  repeat' (conv => whnf); first
 | (refine nameB_dec (fun h => ?_) (fun h => ?_) <;> try simp only [lensB] at h)
 | refine splitB_true ?_
 | refine splitB_false ?_
 | refine Call0 (c_impl_SameRec x.Rec y.Rec hok.2) rfl rfl ?_
 | refine sdA (by first | exact nbT rfl | exact rfl | omega | fail) ?_
 | fail
  all_goals
    conv => whnf
    refine OutA_plain rfl rfl ?_
    first | exact bool_yes (EntryT.same ‹_› ‹_›) | exact bool_no (by intro e; subst e; simp_all)
theorem c_impl_sameEntries (xs ys : List EntryT) (hok : okL EntryT.ok xs) : PC Tryz.prog false 71 [.sl (xs.map EntryT.cells), .sl (ys.map EntryT.cells)] (.bool (decide (xs = ys))) [] := by
  refine pc_at Tryz.func71 rfl (by kernel_rfl) 8 [.tmp 4] rfl rfl ?_
  repeat' (conv => whnf); first
 | (refine nameB_dec (fun h => ?_) (fun h => ?_) <;> try simp only [lensB] at h)
 | refine Call0 (c_EqualFunc_Entry xs ys 107 hok.1 (fun x hx y _ => c_impl_sameEntry x y (hok.2 x hx))) rfl rfl ?_
 | fail
  all_goals
    conv => whnf
    refine OutA_plain rfl rfl ?_
    first
    | rfl
    | (simp_all [named, AV.sub, AV.sub.subL]; done)
    | (simp_all [named, AV.sub, AV.sub.subL] <;> omega)
def preE (a b : List EntryT) : Bool := decide (a.take b.length = b)
theorem preE_short {a b : List EntryT} (h : ¬ (a.length : Int) ≥ (b.length : Int)) : preE a b = false := by
  unfold preE
  refine decide_eq_false fun e => ?_
  have := congrArg List.length e
  rw [List.length_take] at this
  omega
theorem okL_takeE {a : List EntryT} {n : Nat} (h : okL EntryT.ok a) : okL EntryT.ok (a.take n) := ⟨by rw [List.length_take]; have := h.1; omega, fun x hx => h.2 x (List.mem_of_mem_take hx)⟩
theorem sl_len {a b : List EntryT} : List.drop (Int.toNat 0) (List.take (((b.map EntryT.cells).length : Nat) : Int).toNat (a.map EntryT.cells)) = (a.take b.length).map EntryT.cells := by
  rw [List.length_map, Int.toNat_natCast, List.map_take]
  rfl
theorem c_impl_hasPrefix (a b : List EntryT) (hok : okL EntryT.ok a) (hb : b.length <= 1048576) : PC Tryz.prog false 34 [.sl (a.map EntryT.cells), .sl (b.map EntryT.cells)] (.bool (preE a b)) [] := by
  have hl := hok.1
  refine pc_at Tryz.func34 rfl (by kernel_rfl) 18 [.tmp 4] rfl rfl ?_
  repeat' (conv => whnf); first
 | (refine nameB_dec (fun h => ?_) (fun h => ?_) <;> try simp only [lensB] at h)
 | refine splitB_true ?_
 | refine splitB_false ?_
 | refine Call0 (c_impl_sameEntries (a.take b.length) b (okL_takeE hok)) (congrArg (fun l => [AV.sl l, AV.sl (b.map EntryT.cells)]) sl_len) rfl ?_
 | refine sdA (by first | (and_intros <;> first | exact nbT rfl | rfl | omega | (simp only [lensB, lensC]; omega) | exact bytes_ok (nbT rfl) (by omega) (by simp only [lensB, lensC]; omega) | exact bytes_okN (nbT rfl) (by simp only [lensB, lensC]; omega)) | fail) ?_
 | refine side_and (side_of (map_len (fun _ => rfl))) ?_
 | fail
  all_goals
    conv => whnf
    refine OutA_plain rfl rfl ?_
    first
    | exact congrArg AV.bool (preE_short ‹_›).symm
    | exact congrArg AV.bool (decide_eq_true ‹_›).symm
    | exact congrArg AV.bool (decide_eq_false ‹_›).symm
theorem c_spec_l9SameRec (x y : RecT) (hok : x.ok) : PC Tryz.prog false 139 [.agg x.cells, .agg y.cells] (.bool (decide (x = y))) [] := by
  have h1 := hok.2.2.2.2.1.1
  have h2 := hok.2.2.2.2.2.1.1
  refine pc_at Tryz.func139 rfl (by kernel_rfl) 94 [.tmp 4] rfl rfl ?_
  repeat' (conv => whnf); first
 | refine ix_as (f := strC) (xs := x.Reads) (m := k) rfl (by omega) (fun u hu => ?_)
 | refine ix_as (f := strC) (xs := y.Reads) (m := k) rfl (by omega) (fun v hv => ?_)
 | refine ix_as (f := WriteT.cells) (xs := x.Writes) (m := j) rfl (by omega) (fun u hu => ?_)
 | refine ix_as (f := WriteT.cells) (xs := y.Writes) (m := j) rfl (by omega) (fun v hv => ?_)
 | refine nameB_self (b := x.Yes) ?_
 | refine nameB_self (b := y.Yes) ?_
 | (refine nameB_dec (fun h => ?_) (fun h => ?_) <;> try simp only [lensB] at h)
 | (refine nameB_cases (fun h => ?_) (fun h => ?_) <;> try simp only [nmL, lensB] at h)
 | refine splitB_true ?_
 | refine splitB_false ?_
 | refine draw_text (by kernel_rfl) (by kernel_rfl) (by kernel_rfl) ?_
 | (refine Loop_at [2, 3] [0, 16] (Nat) (fun k => x.Reads.take k = y.Reads.take k /\ k <= x.Reads.length) (fun k => [(5, .int .i64 (k : Nat))]) (fun k => []) (fun k => x.Reads.length - k) 0 ⟨by first | (simp_all <;> fail) | rfl | fail, trivial⟩ trivial (by (try dsimp only); first | trivial | (refine ⟨?_, by omega⟩; simp <;> fail) | (simp <;> fail) | fail) ?_; (conv => whnf); refine side_and (side_of (by first | exact fun k => rfl | exact fun k => by simp [headOk, closedE, closedO, closedL, AV.closed, hcap.closed, hasId, AObj.box, BK.ofB])) ?_; rintro k hT; try dsimp only at hT)
 | (refine Loop_at [2, 3] [0, 16] (Nat) (fun j => x.Writes.take j = y.Writes.take j /\ j <= x.Writes.length) (fun j => [(6, .int .i64 (j : Nat))]) (fun j => []) (fun j => x.Writes.length - j) 0 ⟨by first | (simp_all <;> fail) | rfl | fail, trivial⟩ trivial (by (try dsimp only); first | trivial | (refine ⟨?_, by omega⟩; simp <;> fail) | (simp <;> fail) | fail) ?_; (conv => whnf); refine side_and (side_of (by first | exact fun j => rfl | exact fun j => by simp [headOk, closedE, closedO, closedL, AV.closed, hcap.closed, hasId, AObj.box, BK.ofB])) ?_; rintro j hI; try dsimp only at hI)
 | refine Again_of (k + 1) ⟨by first | rfl | exact i64_next (by omega) | (simp_all <;> fail) | fail, trivial⟩ trivial (by first | (and_intros <;> first | rfl | trivial) | fail) (by first | (and_intros <;> first | rfl | trivial) | fail) rfl rfl rfl (by (try dsimp only); first | (exact ⟨take_next hT.1 hu hv (by first | assumption | simp_all), by omega⟩) | fail) (show _ < _ by (try dsimp only); omega)
 | refine Again_of (j + 1) ⟨by first | rfl | exact i64_next (by omega) | (simp_all <;> fail) | fail, trivial⟩ trivial (by first | (and_intros <;> first | rfl | trivial) | fail) (by first | (and_intros <;> first | rfl | trivial) | fail) rfl rfl rfl (by (try dsimp only); first | (exact ⟨take_next hI.1 hu hv (by first | assumption | (cases u; cases v; simp_all)), by omega⟩) | fail) (show _ < _ by (try dsimp only); omega)
 | refine sdA (by first | exact nbT rfl | exact rfl | omega | fail) ?_
 | refine side_and (side_of (show Go.Ab.structOk _ _ = true by kernel_rfl)) ?_
 | refine LoadK_of rfl rfl ?_
 | fail
  all_goals
    conv => whnf
    refine OutA_plain rfl rfl ?_
    first
    | exact bool_yes (RecT.same ‹_› ‹_› ‹_› ‹_› (take_all_eq hT.1 (by omega) (by omega)) (take_all_eq hI.1 (by omega) (by omega)) ‹_›)
    | exact bool_no (fun e => absurd (congrArg RecT.Reads e) (get_ne hu hv (by intro e; subst e; simp_all)))
    | exact bool_no (fun e => absurd (congrArg RecT.Writes e) (get_ne hu hv (by intro e; subst e; simp_all)))
    | exact bool_no (by intro e; subst e; simp_all)
theorem preE_of {a b : List EntryT} {n : Nat} (hb : n <= b.length) : preE a (b.take n) = decide (a.take n = b.take n) := by
  unfold preE
  rw [List.length_take, Nat.min_eq_left hb]
theorem preE_len {a b : List EntryT} {n : Nat} (hb : n <= b.length) (h : (n : Int) > (a.length : Int)) : preE a (b.take n) = false := by
  rw [preE_of hb]
  refine decide_eq_false fun e => ?_
  have := congrArg List.length e
  rw [List.length_take, List.length_take] at this
  omega
theorem c_spec_l9Begins (a b : List EntryT) (n : Nat) (ha : okL EntryT.ok a) (hla : a.length <= 1048576) (hlb : b.length <= 1048576) (hn : n <= b.length) : PC Tryz.prog false 100 [.sl (a.map EntryT.cells), .sl (b.map EntryT.cells), .int .i64 (n : Nat)] (.bool (preE a (b.take n))) [] := by
  refine pc_at Tryz.func100 rfl (by kernel_rfl) 48 [.tmp 6] rfl rfl ?_
  repeat' (conv => whnf); first
 | refine ix_map_at hx ?_
 | refine ix_map_at hy ?_
 | refine ix_as (f := EntryT.cells) (xs := a) (m := k) rfl (by omega) (fun x hx => ?_)
 | refine ix_as (f := EntryT.cells) (xs := b) (m := k) rfl (by omega) (fun y hy => ?_)
 | refine nameB_true ?_
 | refine nameB_false ?_
 | (refine nameB_dec (fun h => ?_) (fun h => ?_) <;> try simp only [lensB] at h)
 | (refine nameB_cases (fun h => ?_) (fun h => ?_) <;> try simp only [nmL, lensB] at h)
 | refine splitB_true ?_
 | refine splitB_false ?_
 | refine draw_text (by kernel_rfl) (by kernel_rfl) (by kernel_rfl) ?_
 | ((refine Loop_at [0, 1, 2] [] (Nat) (fun k => a.take k = b.take k /\ k <= n) (fun k => [(7, .int .i64 (k : Nat))]) (fun k => []) (fun k => n - k) 0 ⟨by first | (simp_all <;> fail) | rfl | fail, trivial⟩ trivial (by (try dsimp only); first | trivial | (refine ⟨?_, by omega⟩; simp <;> fail) | (simp <;> fail) | fail) ?_; (conv => whnf); refine side_and (side_of (by first | exact fun k => rfl | exact fun k => by simp [headOk, closedE, closedO, closedL, AV.closed, hcap.closed, hasId, AObj.box, BK.ofB])) ?_; rintro k hT; try dsimp only at hT))
 | (refine Again_of (k + 1) ⟨by first | rfl | exact i64_next (by omega) | (simp_all <;> fail) | fail, trivial⟩ trivial (by first | (and_intros <;> first | rfl | trivial) | fail) (by first | (and_intros <;> first | rfl | trivial) | fail) rfl rfl rfl (by (try dsimp only); first | (exact ⟨take_next hT.1 hx hy (EntryT.same ‹_› ‹_›), by omega⟩) | fail) (show _ < _ by (try dsimp only); omega))
 | refine CallD0 (c_spec_l9SameRec x.Rec y.Rec (ha.2 x (mgE hx)).2) rfl rfl rfl ?_
 | refine sdA (by first | exact nbT rfl | exact rfl | omega | fail) ?_
 | refine LoadK_of rfl rfl ?_
 | fail
  all_goals
    conv => whnf
    refine OutA_plain rfl rfl ?_
    first
    | exact congrArg AV.bool (preE_len hn ‹_›).symm
    | exact congrArg AV.bool ((preE_of hn).trans (decide_eq_true (by have h9 : k = n := (by omega); rw [<- h9]; exact hT.1))).symm
    | exact congrArg AV.bool ((preE_of hn).trans (decide_eq_false (fun e => absurd (by have h9 := congrArg (fun l => l[k]?) e; simp only [List.getElem?_take_of_lt (show k < n by omega), hx, hy] at h9; exact Option.some.inj h9 : x = y) (by intro e; subst e; simp_all)))).symm
    | (exfalso; omega)
theorem c_spec_l9Many (g : GroupT) (b : List EntryT) (n : Nat) (hok : g.ok) (hw : GB g) (hlb : b.length <= 1048576) (hn : n <= b.length) : PC Tryz.prog false 124 [.agg g.cells, .sl (b.map EntryT.cells), .int .i64 (n : Nat)] (.int .i64 (cntR (fun x => preE x.Log (b.take n)) g.Reps : Nat)) [] := by
  have hl := reps_len hw
  refine pc_at Tryz.func124 rfl (by kernel_rfl) 28 [.tmp 6] rfl rfl ?_
  repeat' (conv => whnf); first
 | (refine nameB_cases (b := preE x.Log (b.take n)) (fun h => ?_) (fun h => ?_))
 | (refine nameB_dec (fun h => ?_) (fun h => ?_) <;> try simp only [lensB] at h)
 | refine splitB_true ?_
 | refine splitB_false ?_
 | ((refine Loop_at [1, 2, 3] [0] (Nat) (fun k => k <= g.Reps.length) (fun k => [(7, .int .i64 (cntR (fun x => preE x.Log (b.take n)) (g.Reps.take k) : Nat)), (8, .int .i64 (k : Nat))]) (fun k => []) (fun k => g.Reps.length - k) 0 ⟨by first | first | rfl | exact congrArg (AV.int .i64) (cntR_inc (q := fun x => preE x.Log (b.take n)) hl hx ‹_›) | exact congrArg (fun n : Nat => AV.int .i64 (n : Int)) (cntR_no (q := fun x => preE x.Log (b.take n)) hx ‹_›).symm | rfl | fail, by first | first | rfl | exact congrArg (AV.int .i64) (cntR_inc (q := fun x => preE x.Log (b.take n)) hl hx ‹_›) | exact congrArg (fun n : Nat => AV.int .i64 (n : Int)) (cntR_no (q := fun x => preE x.Log (b.take n)) hx ‹_›).symm | rfl | fail, trivial⟩ trivial (by (try dsimp only); first | (exact Nat.zero_le _) | fail) ?_; (conv => whnf); refine side_and (side_of (by first | exact fun k => rfl | exact fun k => by simp [headOk, closedE, closedO, closedL, AV.closed, hcap.closed, hasId, AObj.box, BK.ofB])) ?_; rintro k hT; try dsimp only at hT))
 | (refine Again_of (k + 1) ⟨by first | first | rfl | exact congrArg (AV.int .i64) (cntR_inc (q := fun x => preE x.Log (b.take n)) hl hx ‹_›) | exact congrArg (fun n : Nat => AV.int .i64 (n : Int)) (cntR_no (q := fun x => preE x.Log (b.take n)) hx ‹_›).symm | rfl | fail, by first | rfl | exact i64_next (by omega) | first | rfl | exact congrArg (AV.int .i64) (cntR_inc (q := fun x => preE x.Log (b.take n)) hl hx ‹_›) | exact congrArg (fun n : Nat => AV.int .i64 (n : Int)) (cntR_no (q := fun x => preE x.Log (b.take n)) hx ‹_›).symm | fail, trivial⟩ trivial (by first | (and_intros <;> first | rfl | trivial) | fail) (by first | (and_intros <;> first | rfl | trivial) | fail) rfl rfl rfl (by (try dsimp only); first | ((show k + 1 <= _; omega)) | fail) (show _ < _ by (try dsimp only); omega))
 | refine Call0 (c_spec_l9Begins x.Log b n (hok.1.2 x (mgE hx)).2.1 (Nat.le_trans (wL_len (w := EntryT.w)) (rep_w hw (mgE hx))) hlb hn) rfl rfl ?_
 | (refine ix_map (by omega) (by (try simp only [List.length_take]); omega) (fun x hx => ?_); try simp only [Int.toNat_natCast] at hx)
 | refine sdA (by first | exact nbT rfl | exact rfl | omega | fail) ?_
 | fail
  all_goals
    conv => whnf
    refine OutA_plain rfl rfl ?_
    exact congrArg (fun n : Nat => AV.int .i64 (n : Int)) (cntR_end ‹_›)
def termAt (l : List EntryT) (n : Nat) : Int := match l[n]? with | some e => e.Term | none => 0
theorem termAt_of {l : List EntryT} {n : Nat} {e : EntryT} (h : l[n]? = some e) : termAt l n = e.Term := by unfold termAt; rw [h]
def hit (g : GroupT) (l : ReplicaT) (m : Nat) : Bool := decide (termAt l.Log (m - 1) = g.Term) && most g (fun x => preE x.Log (l.Log.take m))
def adv (g : GroupT) (l : ReplicaT) : Nat -> Int
  | 0 => l.Sure
  | m + 1 => if ((m + 1 : Nat) : Int) > l.Sure then (if hit g l (m + 1) = true then ((m + 1 : Nat) : Int) else adv g l m) else l.Sure
theorem adv_stop {g : GroupT} {l : ReplicaT} {m : Nat} (h : ¬ (m : Int) > l.Sure) : adv g l m = l.Sure := by
  cases m with
  | zero => rfl
  | succ m => unfold adv; rw [if_neg h]
theorem adv_hit {g : GroupT} {l : ReplicaT} {m : Nat} (h0 : 0 <= l.Sure) (h : (m : Int) > l.Sure) (h1 : hit g l m = true) : adv g l m = (m : Int) := by
  cases m with
  | zero => omega
  | succ m => unfold adv; rw [if_pos h, if_pos h1]
theorem adv_go {g : GroupT} {l : ReplicaT} {m : Nat} (h0 : 0 <= l.Sure) (h : (m : Int) > l.Sure) (h1 : hit g l m = false) : adv g l (m - 1) = adv g l m := by
  cases m with
  | zero => omega
  | succ m => conv => rhs; unfold adv
              rw [if_pos h, if_neg (by rw [h1]; simp)]
              rfl
theorem hit_yes {g : GroupT} {l : ReplicaT} {m : Nat} {e : EntryT} (he : l.Log[m - 1]? = some e) (h1 : e.Term = g.Term) (h2 : most g (fun x => preE x.Log (l.Log.take m)) = true) : hit g l m = true := by unfold hit; rw [termAt_of he, h2, decide_eq_true h1]; rfl
theorem hit_no1 {g : GroupT} {l : ReplicaT} {m : Nat} {e : EntryT} (he : l.Log[m - 1]? = some e) (h1 : ¬ e.Term = g.Term) : hit g l m = false := by unfold hit; rw [termAt_of he, decide_eq_false h1]; rfl
theorem hit_no2 {g : GroupT} {l : ReplicaT} {m : Nat} (h2 : most g (fun x => preE x.Log (l.Log.take m)) = false) : hit g l m = false := by unfold hit; rw [h2]; simp
def okAdv (g : GroupT) : Bool := okGroup g && !decide (g.Lead < 0)
def advS (g : GroupT) : Int := match g.Reps[g.Lead.toNat]? with | some l => adv g l l.Log.length | none => 0
theorem advS_of {g : GroupT} {l : ReplicaT} (h : g.Reps[g.Lead.toNat]? = some l) : advS g = adv g l l.Log.length := by unfold advS; rw [h]
def advR (g : GroupT) : GroupT := resG (okAdv g) ⟨setRep g g.Lead (fun y => { y with Sure := advS g }), g.Term, g.Lead⟩
theorem advR_yes {g : GroupT} (h : okAdv g = true) : advR g = ⟨setRep g g.Lead (fun y => { y with Sure := advS g }), g.Term, g.Lead⟩ := by rw [advR, resG_yes h]
theorem advR_no {g : GroupT} (h : okAdv g = false) : advR g = ⟨[], 0, 0⟩ := by rw [advR, resG_no h]; rfl
theorem okAdv_yes {g : GroupT} (h1 : okGroup g = true) (h2 : ¬ g.Lead < 0) : okAdv g = true := by unfold okAdv; rw [h1, decide_eq_false h2]; rfl
theorem okAdv_no {g : GroupT} (h : okGroup g = false \/ g.Lead < 0) : okAdv g = false := by
  unfold okAdv
  rcases h with h | h
  · rw [h]; rfl
  · rw [decide_eq_true h]; simp
theorem adv_cells {g : GroupT} {l : ReplicaT} {n : Int} (hl : g.Reps[g.Lead.toNat]? = some l) (hn : adv g l l.Log.length = n) : [.bool l.Up, .sl (l.Log.map EntryT.cells), .int .i64 n] = (({ l with Sure := advS g } : ReplicaT)).cells := by
  rw [advS_of hl, hn]
  rfl
theorem adv_same {g : GroupT} {l : ReplicaT} (hl : g.Reps[g.Lead.toNat]? = some l) (hn : adv g l l.Log.length = l.Sure) : g.Reps.map ReplicaT.cells = (setRep g g.Lead (fun y => { y with Sure := advS g })).map ReplicaT.cells := by
  rw [<- setRep_cells (f := fun y => { y with Sure := advS g }) hl (adv_cells hl hn)]
  have h8 : (g.Reps.map ReplicaT.cells)[g.Lead.toNat]? = some l.cells := by rw [List.getElem?_map, hl]; rfl
  have h9 : (g.Reps.map ReplicaT.cells).set g.Lead.toNat l.cells = g.Reps.map ReplicaT.cells := by
    obtain ⟨q, e⟩ := List.getElem?_eq_some_iff.1 h8
    rw [<- e]
    exact List.set_getElem_self q
  exact h9.symm
theorem okG_sure {g : GroupT} {l : ReplicaT} {n : Nat} (h : okGroup g = true) (hl : g.Reps[n]? = some l) : 0 <= l.Sure := by
  unfold okGroup at h
  simp only [baT, List.all_eq_true] at h
  have h2 := h.2 l (mgE hl)
  unfold okRep at h2
  simp only [baT] at h2
  exact (inB_sp h2.2).1
theorem dec_eq {m : Nat} {s : Int} (hm : m <= 1048576) (h0 : 0 <= s) (h : (m : Int) > s) : IntKind.i64.wrap ((m : Int) - 1) = ((m - 1 : Nat) : Int) := by
  rw [i64_wrap (by omega) (by omega)]
  omega
def bC (b : UInt8) : List AV := [.int .u8 (b.toNat : Int)]
def byt (n : Int) : UInt8 := (n % 256).toNat.toUInt8
theorem u8w {e : Int} : IntKind.u8.wrap e = e % 256 := by
  unfold IntKind.wrap
  simp [IntKind.bits, IntKind.signed]
theorem byt_toNat {n : Int} : ((byt n).toNat : Int) = n % 256 := by
  unfold byt
  rw [Nat.toUInt8, UInt8.toNat_ofNat']
  omega
theorem b1 {n : Int} (h : 0 <= n) : IntKind.u8.wrap (IntKind.u8.wrap (n.tmod 128) + 128) = ((byt (n % 128 + 128)).toNat : Int) := by
  rw [u8w, u8w, byt_toNat, Int.tmod_eq_emod_of_nonneg h]; omega
theorem b2 {n : Int} (h : 0 <= n) : IntKind.u8.wrap (IntKind.i64.wrap (n.tmod 128 + 128)) = ((byt (n % 128 + 128)).toNat : Int) := by
  rw [u8w, byt_toNat, Int.tmod_eq_emod_of_nonneg h, i64_wrap (by omega) (by omega)]
theorem b3 {n : Int} : IntKind.u8.wrap n = ((byt n).toNat : Int) := by rw [u8w, byt_toNat]
theorem bapp {out : List UInt8} {b : UInt8} {L : List (List AV)} (hL : L = [bC b]) : out.map bC ++ L = (out ++ [b]).map bC := by rw [hL]; simp
def numG : Nat -> Int -> List UInt8
  | 0, n => [byt n]
  | f + 1, n => if n ≥ 128 then byt (n % 128 + 128) :: numG f (n.tdiv 128) else [byt n]
def numB (n : Int) : List UInt8 := numG n.toNat n
theorem numG_end {out B : List UInt8} {f : Nat} {n : Int} (h : out ++ numG f n = B) (hn : ¬ n ≥ 128) : out ++ [byt n] = B := by
  cases f with
  | zero => exact h
  | succ f => unfold numG at h; rw [if_neg hn] at h; exact h
theorem numG_go {out B : List UInt8} {f : Nat} {n : Int} (h : out ++ numG f n = B) (hn : n ≥ 128) (hf : n.toNat <= f) : (out ++ [byt (n % 128 + 128)]) ++ numG (f - 1) (n.tdiv 128) = B := by
  obtain ⟨f, rfl⟩ : ∃ m, f = m + 1 := ⟨f - 1, by omega⟩
  unfold numG at h
  rw [if_pos hn] at h
  rw [List.append_assoc]
  exact h
theorem tdiv_128 {n : Int} (h : n ≥ 128) : 0 <= n.tdiv 128 /\ n.tdiv 128 < n := by
  rw [Int.tdiv_eq_ediv_of_nonneg (by omega)]
  omega
theorem c_impl_numBytes (n0 : Int) (h0 : 0 <= n0) (h1 : n0 <= 1048576) : PC Tryz.prog false 95 [.int .i64 n0] (.str (numB n0)) [] := by
  refine pc_at Tryz.func95 rfl (by kernel_rfl) 22 [.tmp 2] rfl rfl ?_
  repeat' (conv => whnf); first
 | refine side_and (side_of (one_lenC rfl rfl)) ?_
 | refine sdA (by first | (and_intros <;> first | exact nbT rfl | rfl | (intro e; exact absurd (AV.own.inj e) (by decide)) | (intro e; exact AV.noConfusion e)) | fail) ?_
 | refine side_and (side_of (app_boundC (L := out.map bC) rfl (by (try simp only [List.length_map, laT, List.length_take, List.length_set, List.length_drop]); omega) (nbT rfl))) ?_
 | (refine nameB_dec (fun h => ?_) (fun h => ?_) <;> try simp only [lensB] at h)
 | refine splitB_true ?_
 | refine splitB_false ?_
 | ((refine Loop_nil 3 1 5 1 rfl rfl (by decide) ?_; refine Loop_at [] [] (Int × List UInt8 × Nat) (fun j => match j with | (n, out, f) => 0 <= n /\ n.toNat <= f /\ out ++ numG f n = numB n0 /\ (out.length : Int) + n <= n0) (fun j => match j with | (n, out, f) => [(0, .int .i64 n), (3, .own 1)]) (fun j => match j with | (n, out, f) => [(1, ⟨false, 5, 1, out.map bC⟩)]) (fun j => match j with | (n, out, f) => n.toNat) (n0, [], n0.toNat) ⟨by first | first | rfl | exact congrArg (AV.int .i64) (i64_wrap (by have ht := tdiv_128 (n := n) ‹_›; omega) (by have ht := tdiv_128 (n := n) ‹_›; omega)) | rfl | fail, by first | rfl | first | rfl | exact congrArg (AV.int .i64) (i64_wrap (by have ht := tdiv_128 (n := n) ‹_›; omega) (by have ht := tdiv_128 (n := n) ‹_›; omega)) | fail, trivial⟩ ⟨by first | rfl | first | exact congrArg (fun e => some (AObj.mk _ _ _ e)) (bapp (congrArg (fun x => [[AV.int .u8 x]]) (b1 hT.1))) | exact congrArg (fun e => some (AObj.mk _ _ _ e)) (bapp (congrArg (fun x => [[AV.int .u8 x]]) (b2 hT.1))) | fail | fail, trivial⟩ (by (try dsimp only); first | (exact ⟨h0, Nat.le_refl _, rfl, by simp⟩) | fail) ?_; (conv => whnf); refine side_and (side_of (by first | exact fun ⟨n, out, f⟩ => rfl | exact fun ⟨n, out, f⟩ => by simp [headOk, closedE, closedO, closedL, AV.closed, hcap.closed, hasId, AObj.box, BK.ofB])) ?_; rintro ⟨n, out, f⟩ hT; try dsimp only at hT))
 | (refine Again_of (n.tdiv 128, out ++ [byt (n % 128 + 128)], f - 1) ⟨by first | first | rfl | exact congrArg (AV.int .i64) (i64_wrap (by have ht := tdiv_128 (n := n) ‹_›; omega) (by have ht := tdiv_128 (n := n) ‹_›; omega)) | rfl | fail, by first | rfl | first | rfl | exact congrArg (AV.int .i64) (i64_wrap (by have ht := tdiv_128 (n := n) ‹_›; omega) (by have ht := tdiv_128 (n := n) ‹_›; omega)) | fail, trivial⟩ ⟨by first | rfl | first | exact congrArg (fun e => some (AObj.mk _ _ _ e)) (bapp (congrArg (fun x => [[AV.int .u8 x]]) (b1 hT.1))) | exact congrArg (fun e => some (AObj.mk _ _ _ e)) (bapp (congrArg (fun x => [[AV.int .u8 x]]) (b2 hT.1))) | fail | fail, trivial⟩ (by first | (and_intros <;> first | rfl | trivial) | fail) (by first | (and_intros <;> first | rfl | trivial) | fail) rfl rfl rfl (by (try dsimp only); first | ((have ht := tdiv_128 (n := n) ‹_›; exact ⟨ht.1, by omega, numG_go hT.2.2.1 ‹_› hT.2.1, by simp only [laT, List.length_cons, List.length_nil]; omega⟩)) | fail) (show _ < _ by (try dsimp only); (have ht := tdiv_128 (n := n) ‹_›; omega)))
 | refine sdA (by first | exact nbT rfl | exact rfl | omega | fail) ?_
 | refine ⟨out ++ [byt n], bapp (congrArg (fun x => [[AV.int .u8 x]]) b3), ?_⟩
 | fail
  all_goals
    conv => whnf
    refine OutA_plain rfl rfl ?_
    exact congrArg AV.str (numG_end hT.2.2.1 ‹_›)
theorem c_spec_l1NumB (n0 : Int) (h0 : 0 <= n0) (h1 : n0 <= 1048576) : PC Tryz.prog false 77 [.int .i64 n0] (.str (numB n0)) [] := by
  refine pc_at Tryz.func77 rfl (by kernel_rfl) 21 [.tmp 2] rfl rfl ?_
  repeat' (conv => whnf); first
 | refine side_and (side_of (one_lenC rfl rfl)) ?_
 | refine sdA (by first | (and_intros <;> first | exact nbT rfl | rfl | (intro e; exact absurd (AV.own.inj e) (by decide)) | (intro e; exact AV.noConfusion e)) | fail) ?_
 | refine side_and (side_of (app_boundC (L := out.map bC) rfl (by (try simp only [List.length_map, laT, List.length_take, List.length_set, List.length_drop]); omega) (nbT rfl))) ?_
 | (refine nameB_dec (fun h => ?_) (fun h => ?_) <;> try simp only [lensB] at h)
 | refine splitB_true ?_
 | refine splitB_false ?_
 | ((refine Loop_nil 3 1 5 1 rfl rfl (by decide) ?_; refine Loop_at [] [] (Int × List UInt8 × Nat) (fun j => match j with | (n, out, f) => 0 <= n /\ n.toNat <= f /\ out ++ numG f n = numB n0 /\ (out.length : Int) + n <= n0) (fun j => match j with | (n, out, f) => [(0, .int .i64 n), (3, .own 1)]) (fun j => match j with | (n, out, f) => [(1, ⟨false, 5, 1, out.map bC⟩)]) (fun j => match j with | (n, out, f) => n.toNat) (n0, [], n0.toNat) ⟨by first | first | rfl | exact congrArg (AV.int .i64) (i64_wrap (by have ht := tdiv_128 (n := n) ‹_›; omega) (by have ht := tdiv_128 (n := n) ‹_›; omega)) | rfl | fail, by first | rfl | first | rfl | exact congrArg (AV.int .i64) (i64_wrap (by have ht := tdiv_128 (n := n) ‹_›; omega) (by have ht := tdiv_128 (n := n) ‹_›; omega)) | fail, trivial⟩ ⟨by first | rfl | first | exact congrArg (fun e => some (AObj.mk _ _ _ e)) (bapp (congrArg (fun x => [[AV.int .u8 x]]) (b1 hT.1))) | exact congrArg (fun e => some (AObj.mk _ _ _ e)) (bapp (congrArg (fun x => [[AV.int .u8 x]]) (b2 hT.1))) | fail | fail, trivial⟩ (by (try dsimp only); first | (exact ⟨h0, Nat.le_refl _, rfl, by simp⟩) | fail) ?_; (conv => whnf); refine side_and (side_of (by first | exact fun ⟨n, out, f⟩ => rfl | exact fun ⟨n, out, f⟩ => by simp [headOk, closedE, closedO, closedL, AV.closed, hcap.closed, hasId, AObj.box, BK.ofB])) ?_; rintro ⟨n, out, f⟩ hT; try dsimp only at hT))
 | (refine Again_of (n.tdiv 128, out ++ [byt (n % 128 + 128)], f - 1) ⟨by first | first | rfl | exact congrArg (AV.int .i64) (i64_wrap (by have ht := tdiv_128 (n := n) ‹_›; omega) (by have ht := tdiv_128 (n := n) ‹_›; omega)) | rfl | fail, by first | rfl | first | rfl | exact congrArg (AV.int .i64) (i64_wrap (by have ht := tdiv_128 (n := n) ‹_›; omega) (by have ht := tdiv_128 (n := n) ‹_›; omega)) | fail, trivial⟩ ⟨by first | rfl | first | exact congrArg (fun e => some (AObj.mk _ _ _ e)) (bapp (congrArg (fun x => [[AV.int .u8 x]]) (b1 hT.1))) | exact congrArg (fun e => some (AObj.mk _ _ _ e)) (bapp (congrArg (fun x => [[AV.int .u8 x]]) (b2 hT.1))) | fail | fail, trivial⟩ (by first | (and_intros <;> first | rfl | trivial) | fail) (by first | (and_intros <;> first | rfl | trivial) | fail) rfl rfl rfl (by (try dsimp only); first | ((have ht := tdiv_128 (n := n) ‹_›; exact ⟨ht.1, by omega, numG_go hT.2.2.1 ‹_› hT.2.1, by simp only [laT, List.length_cons, List.length_nil]; omega⟩)) | fail) (show _ < _ by (try dsimp only); (have ht := tdiv_128 (n := n) ‹_›; omega)))
 | refine sdA (by first | exact nbT rfl | exact rfl | omega | fail) ?_
 | refine ⟨out ++ [byt n], bapp (congrArg (fun x => [[AV.int .u8 x]]) b3), ?_⟩
 | fail
  all_goals
    conv => whnf
    refine OutA_plain rfl rfl ?_
    exact congrArg AV.str (numG_end hT.2.2.1 ‹_›)
theorem numG_len : ∀ (f : Nat) (n : Int), (numG f n).length <= f + 1
  | 0, n => by simp [numG]
  | f + 1, n => by
    unfold numG
    split
    · have := numG_len f (n.tdiv 128); simp only [List.length_cons]; omega
    · simp
theorem numB_len (n : Int) : (numB n).length <= n.toNat + 1 := numG_len _ _
def textB (s : List UInt8) : List UInt8 := numB s.length ++ s
theorem textB_len (s : List UInt8) : (textB s).length <= 2 * s.length + 1 := by
  have := numB_len (s.length : Nat)
  unfold textB
  rw [laT]
  omega
def textsG (l : List (List UInt8)) : List UInt8 := (l.map textB).flatten
def textsB (l : List (List UInt8)) : List UInt8 := numB l.length ++ textsG l
theorem textsG_len (l : List (List UInt8)) : (textsG l).length <= 2 * wL List.length l := by
  unfold textsG wL
  induction l with
  | nil => simp
  | cons x l ih =>
    have := textB_len x
    simp only [List.map_cons, List.flatten_cons, laT, List.length_cons, List.sum_cons] at ih ⊢
    omega
theorem textsG_take (l : List (List UInt8)) (k : Nat) : (textsG (l.take k)).length <= (textsG l).length := by
  conv => rhs; rw [<- List.take_append_drop k l]
  unfold textsG
  rw [List.map_append, List.flatten_append, laT]
  omega
def flagB (b : Bool) : List UInt8 := match b with | true => [1] | false => [0]
theorem flagB_len (b : Bool) : (flagB b).length = 1 := by cases b <;> rfl
theorem textsG_next {l : List (List UInt8)} {k : Nat} {x : List UInt8} {A : List UInt8} (hx : l[k]? = some x) : (A ++ textsG (l.take k)) ++ textB x = A ++ textsG (l.take (k + 1)) := by
  unfold textsG
  rw [take_get hx, List.map_append, List.flatten_append, List.append_assoc]
  simp
theorem c_impl_textBytes (s : List UInt8) (h : s.length <= 1048576) : PC Tryz.prog false 134 [.str s] (.str (textB s)) [] := by
  have hn := numB_len (s.length : Nat)
  refine pc_at Tryz.func134 rfl (by kernel_rfl) 8 [.tmp 2] rfl rfl ?_
  repeat' (conv => whnf); first
 | refine Call0 (c_impl_numBytes (s.length : Nat) (by omega) (by omega)) rfl rfl ?_
 | refine sdA (by first | exact nbT rfl | exact rfl | omega | fail) ?_
 | fail
  all_goals
    conv => whnf
    refine OutA_plain rfl rfl ?_
    first
    | rfl
    | (simp_all [textB, named, AV.sub, AV.sub.subL]; done)
    | (simp_all [textB, named, AV.sub, AV.sub.subL] <;> omega)
theorem c_spec_l1TextB (s : List UInt8) (h : s.length <= 1048576) : PC Tryz.prog false 114 [.str s] (.str (textB s)) [] := by
  have hn := numB_len (s.length : Nat)
  refine pc_at Tryz.func114 rfl (by kernel_rfl) 8 [.tmp 2] rfl rfl ?_
  repeat' (conv => whnf); first
 | refine Call0 (c_spec_l1NumB (s.length : Nat) (by omega) (by omega)) rfl rfl ?_
 | refine sdA (by first | exact nbT rfl | exact rfl | omega | fail) ?_
 | fail
  all_goals
    conv => whnf
    refine OutA_plain rfl rfl ?_
    first
    | rfl
    | (simp_all [textB, named, AV.sub, AV.sub.subL]; done)
    | (simp_all [textB, named, AV.sub, AV.sub.subL] <;> omega)
theorem c_impl_flagByte (b : Bool) : PC Tryz.prog false 132 [.bool b] (.str (flagB b)) [] := by
  refine pc_at Tryz.func132 rfl (by kernel_rfl) 4 [.tmp 2] rfl rfl ?_
  repeat' (conv => whnf); first
 | (refine splitB_intro (fun h => ?_) (fun h => ?_) <;> subst h)
 | fail
  all_goals
    conv => whnf
    exact OutA_plain rfl rfl rfl
theorem c_spec_l4Flag (b : Bool) : PC Tryz.prog false 112 [.bool b] (.str (flagB b)) [] := by
  refine pc_at Tryz.func112 rfl (by kernel_rfl) 4 [.tmp 2] rfl rfl ?_
  repeat' (conv => whnf); first
 | (refine splitB_intro (fun h => ?_) (fun h => ?_) <;> subst h)
 | fail
  all_goals
    conv => whnf
    exact OutA_plain rfl rfl rfl
theorem c_impl_textsBytes (l : List (List UInt8)) (hwl : wL List.length l <= 1048576) : PC Tryz.prog false 133 [.sl (l.map strC)] (.str (textsB l)) [] := by
  have hl : l.length <= wL List.length l := wL_len
  have hn := numB_len (l.length : Nat)
  have hg := textsG_len l
  refine pc_at Tryz.func133 rfl (by kernel_rfl) 21 [.tmp 2] rfl rfl ?_
  repeat' (conv => whnf); first
 | (refine ix_as (f := strC) (m := k) rfl (by omega) (fun x hx => ?_))
 | exact side_of (by first | (have h1 := textsG_take l k; have h2 := textB_len x; have h3 := (wL_mem (w := List.length) (mgE hx)).2; simp only [laT]; omega) | fail)
 | (refine nameB_dec (fun h => ?_) (fun h => ?_) <;> try simp only [lensB] at h)
 | refine splitB_true ?_
 | refine splitB_false ?_
 | ((refine Loop_at [9, 10] [] (Nat) (fun k => k <= l.length) (fun k => [(11, .int .i64 (k : Nat)), (3, .str (numB (l.length : Nat) ++ textsG (l.take k)))]) (fun k => []) (fun k => l.length - k) 0 ⟨by first | first | exact congrArg AV.str (textsG_next hx) | exact congrArg AV.str (by simp [textsG]) | rfl | fail, by first | rfl | first | exact congrArg AV.str (textsG_next hx) | exact congrArg AV.str (by simp [textsG]) | fail, trivial⟩ trivial (by (try dsimp only); first | (exact Nat.zero_le _) | fail) ?_; (conv => whnf); refine side_and (side_of (by first | exact fun k => rfl | exact fun k => by simp [headOk, closedE, closedO, closedL, AV.closed, hcap.closed, hasId, AObj.box, BK.ofB])) ?_; rintro k hT; try dsimp only at hT))
 | (refine Again_of (k + 1) ⟨by first | rfl | exact i64_next (by omega) | first | exact congrArg AV.str (textsG_next hx) | exact congrArg AV.str (by simp [textsG]) | fail, by first | rfl | first | exact congrArg AV.str (textsG_next hx) | exact congrArg AV.str (by simp [textsG]) | fail, trivial⟩ trivial (by first | (and_intros <;> first | rfl | trivial) | fail) (by first | (and_intros <;> first | rfl | trivial) | fail) rfl rfl rfl (by (try dsimp only); first | ((show k + 1 <= _; omega)) | fail) (show _ < _ by (try dsimp only); omega))
 | refine Call0 (c_impl_numBytes (l.length : Nat) (by omega) (by omega)) (congrArg (fun n : Nat => [AV.int .i64 (n : Int)]) (List.length_map strC)) rfl ?_
 | refine Call0 (c_impl_textBytes x (Nat.le_trans (wL_mem (mgE hx)).2 hwl)) rfl rfl ?_
 | refine sdA (by first | exact nbT rfl | exact rfl | omega | fail) ?_
 | refine side_and ?_ ?_
 | fail
  all_goals
    conv => whnf
    refine OutA_plain rfl rfl ?_
    exact congrArg (fun m : List (List UInt8) => AV.str (numB (l.length : Nat) ++ textsG m)) (List.take_of_length_le (by omega))
theorem c_spec_l1TextsB (l : List (List UInt8)) (hwl : wL List.length l <= 1048576) : PC Tryz.prog false 113 [.sl (l.map strC)] (.str (textsB l)) [] := by
  have hl : l.length <= wL List.length l := wL_len
  have hn := numB_len (l.length : Nat)
  have hg := textsG_len l
  refine pc_at Tryz.func113 rfl (by kernel_rfl) 21 [.tmp 2] rfl rfl ?_
  repeat' (conv => whnf); first
 | (refine ix_as (f := strC) (m := k) rfl (by omega) (fun x hx => ?_))
 | exact side_of (by first | (have h1 := textsG_take l k; have h2 := textB_len x; have h3 := (wL_mem (w := List.length) (mgE hx)).2; simp only [laT]; omega) | fail)
 | (refine nameB_dec (fun h => ?_) (fun h => ?_) <;> try simp only [lensB] at h)
 | refine splitB_true ?_
 | refine splitB_false ?_
 | ((refine Loop_at [9, 10] [] (Nat) (fun k => k <= l.length) (fun k => [(11, .int .i64 (k : Nat)), (3, .str (numB (l.length : Nat) ++ textsG (l.take k)))]) (fun k => []) (fun k => l.length - k) 0 ⟨by first | first | exact congrArg AV.str (textsG_next hx) | exact congrArg AV.str (by simp [textsG]) | rfl | fail, by first | rfl | first | exact congrArg AV.str (textsG_next hx) | exact congrArg AV.str (by simp [textsG]) | fail, trivial⟩ trivial (by (try dsimp only); first | (exact Nat.zero_le _) | fail) ?_; (conv => whnf); refine side_and (side_of (by first | exact fun k => rfl | exact fun k => by simp [headOk, closedE, closedO, closedL, AV.closed, hcap.closed, hasId, AObj.box, BK.ofB])) ?_; rintro k hT; try dsimp only at hT))
 | (refine Again_of (k + 1) ⟨by first | rfl | exact i64_next (by omega) | first | exact congrArg AV.str (textsG_next hx) | exact congrArg AV.str (by simp [textsG]) | fail, by first | rfl | first | exact congrArg AV.str (textsG_next hx) | exact congrArg AV.str (by simp [textsG]) | fail, trivial⟩ trivial (by first | (and_intros <;> first | rfl | trivial) | fail) (by first | (and_intros <;> first | rfl | trivial) | fail) rfl rfl rfl (by (try dsimp only); first | ((show k + 1 <= _; omega)) | fail) (show _ < _ by (try dsimp only); omega))
 | refine Call0 (c_spec_l1NumB (l.length : Nat) (by omega) (by omega)) (congrArg (fun n : Nat => [AV.int .i64 (n : Int)]) (List.length_map strC)) rfl ?_
 | refine Call0 (c_spec_l1TextB x (Nat.le_trans (wL_mem (mgE hx)).2 hwl)) rfl rfl ?_
 | refine sdA (by first | exact nbT rfl | exact rfl | omega | fail) ?_
 | refine side_and ?_ ?_
 | fail
  all_goals
    conv => whnf
    refine OutA_plain rfl rfl ?_
    exact congrArg (fun m : List (List UInt8) => AV.str (numB (l.length : Nat) ++ textsG m)) (List.take_of_length_le (by omega))
def sumG (n : Int) : List UInt8 -> Int
  | [] => n
  | b :: bs => sumG ((31 * n + b.toNat + 1) % 16000057) bs
def sumB (s : List UInt8) : Int := sumG 7 s
theorem sumG_in : ∀ (s : List UInt8) (n : Int), 0 <= n /\ n < 16000057 -> 0 <= sumG n s /\ sumG n s < 16000057
  | [], n, h => h
  | b :: bs, n, h => sumG_in bs _ (by omega)
theorem sum_go {n : Int} {s : List UInt8} {k : Nat} {B : Int} (h : sumG n (s.drop k) = B) (hk : k < s.length) : sumG ((31 * n + ((s.getD k 0).toNat : Int) + 1) % 16000057) (s.drop (k + 1)) = B := by
  rw [List.drop_eq_getElem_cons hk] at h
  unfold sumG at h
  rw [List.getD_eq_getElem?_getD, List.getElem?_eq_getElem hk]
  exact h
theorem sum_end {n : Int} {s : List UInt8} {k : Nat} {B : Int} (h : sumG n (s.drop k) = B) (hk : ¬ (k : Int) < s.length) : n = B := by
  rw [List.drop_eq_nil_of_le (by omega)] at h
  exact h
theorem sum_w {n : Int} {b : UInt8} (h0 : 0 <= n) (h1 : n < 16000057) : (IntKind.i64.wrap (IntKind.i64.wrap (IntKind.i64.wrap (31 * n) + IntKind.i64.wrap (b.toNat : Int)) + 1)).tmod 16000057 = (31 * n + (b.toNat : Int) + 1) % 16000057 := by
  have hb : b.toNat < 256 := b.toNat_lt
  rw [i64_wrap (e := 31 * n) (by omega) (by omega), i64_wrap (e := (b.toNat : Int)) (by omega) (by omega), i64_wrap (e := 31 * n + (b.toNat : Int)) (by omega) (by omega), i64_wrap (by omega) (by omega), Int.tmod_eq_emod_of_nonneg (by omega)]
theorem c_impl_sumOf (s : List UInt8) (h : s.length <= 1073741824) : PC Tryz.prog false 150 [.str s] (.int .i64 (sumB s)) [] := by
  refine pc_at Tryz.func150 rfl (by kernel_rfl) 21 [.tmp 2] rfl rfl ?_
  repeat' (conv => whnf); first
 | (refine nameB_dec (fun h => ?_) (fun h => ?_) <;> try simp only [lensB] at h)
 | refine splitB_true ?_
 | refine splitB_false ?_
 | ((refine Loop_at [0, 6] [] (Nat × Int) (fun j => match j with | (k, n) => sumG n (s.drop k) = sumB s /\ k <= s.length /\ 0 <= n /\ n < 16000057) (fun j => match j with | (k, n) => [(3, .int .i64 n), (7, .int .i64 (k : Nat))]) (fun j => match j with | (k, n) => []) (fun j => match j with | (k, n) => s.length - k) (0, 7) ⟨by first | first | rfl | exact congrArg (AV.int .i64) (sum_w hT.2.2.1 hT.2.2.2) | rfl | fail, by first | first | rfl | exact congrArg (AV.int .i64) (sum_w hT.2.2.1 hT.2.2.2) | rfl | fail, trivial⟩ trivial (by (try dsimp only); first | (exact ⟨rfl, Nat.zero_le _, by decide, by decide⟩) | fail) ?_; (conv => whnf); refine side_and (side_of (by first | exact fun ⟨k, n⟩ => rfl | exact fun ⟨k, n⟩ => by simp [headOk, closedE, closedO, closedL, AV.closed, hcap.closed, hasId, AObj.box, BK.ofB])) ?_; rintro ⟨k, n⟩ hT; try dsimp only at hT))
 | (refine Again_of (k + 1, (31 * n + ((s.getD k 0).toNat : Int) + 1) % 16000057) ⟨by first | first | rfl | exact congrArg (AV.int .i64) (sum_w hT.2.2.1 hT.2.2.2) | rfl | fail, by first | rfl | exact i64_next (by omega) | first | rfl | exact congrArg (AV.int .i64) (sum_w hT.2.2.1 hT.2.2.2) | fail, trivial⟩ trivial (by first | (and_intros <;> first | rfl | trivial) | fail) (by first | (and_intros <;> first | rfl | trivial) | fail) rfl rfl rfl (by (try dsimp only); first | (exact ⟨sum_go hT.1 (by omega), by omega, by omega, by omega⟩) | fail) (show _ < _ by (try dsimp only); omega))
 | refine sdA (by first | exact nbT rfl | exact rfl | omega | fail) ?_
 | fail
  all_goals
    conv => whnf
    refine OutA_plain rfl rfl ?_
    exact congrArg (AV.int .i64) (sum_end hT.1 (by omega))
theorem c_spec_l1Sum (s : List UInt8) (h : s.length <= 1073741824) : PC Tryz.prog false 116 [.str s] (.int .i64 (sumB s)) [] := by
  refine pc_at Tryz.func116 rfl (by kernel_rfl) 21 [.tmp 2] rfl rfl ?_
  repeat' (conv => whnf); first
 | (refine nameB_dec (fun h => ?_) (fun h => ?_) <;> try simp only [lensB] at h)
 | refine splitB_true ?_
 | refine splitB_false ?_
 | ((refine Loop_at [0] [] (Nat × Int) (fun j => match j with | (k, n) => sumG n (s.drop k) = sumB s /\ k <= s.length /\ 0 <= n /\ n < 16000057) (fun j => match j with | (k, n) => [(3, .int .i64 n), (4, .int .i64 (k : Nat))]) (fun j => match j with | (k, n) => []) (fun j => match j with | (k, n) => s.length - k) (0, 7) ⟨by first | first | rfl | exact congrArg (AV.int .i64) (sum_w hT.2.2.1 hT.2.2.2) | rfl | fail, by first | first | rfl | exact congrArg (AV.int .i64) (sum_w hT.2.2.1 hT.2.2.2) | rfl | fail, trivial⟩ trivial (by (try dsimp only); first | (exact ⟨rfl, Nat.zero_le _, by decide, by decide⟩) | fail) ?_; (conv => whnf); refine side_and (side_of (by first | exact fun ⟨k, n⟩ => rfl | exact fun ⟨k, n⟩ => by simp [headOk, closedE, closedO, closedL, AV.closed, hcap.closed, hasId, AObj.box, BK.ofB])) ?_; rintro ⟨k, n⟩ hT; try dsimp only at hT))
 | (refine Again_of (k + 1, (31 * n + ((s.getD k 0).toNat : Int) + 1) % 16000057) ⟨by first | first | rfl | exact congrArg (AV.int .i64) (sum_w hT.2.2.1 hT.2.2.2) | rfl | fail, by first | rfl | exact i64_next (by omega) | first | rfl | exact congrArg (AV.int .i64) (sum_w hT.2.2.1 hT.2.2.2) | fail, trivial⟩ trivial (by first | (and_intros <;> first | rfl | trivial) | fail) (by first | (and_intros <;> first | rfl | trivial) | fail) rfl rfl rfl (by (try dsimp only); first | (exact ⟨sum_go hT.1 (by omega), by omega, by omega, by omega⟩) | fail) (show _ < _ by (try dsimp only); omega))
 | refine sdA (by first | exact nbT rfl | exact rfl | omega | fail) ?_
 | fail
  all_goals
    conv => whnf
    refine OutA_plain rfl rfl ?_
    exact congrArg (AV.int .i64) (sum_end hT.1 (by omega))
def threeB (n : Int) : List UInt8 := [byt (n / 65536), byt (n / 256), byt n]
def sealB (s : List UInt8) : List UInt8 := s ++ threeB (sumB s)
theorem t1 {n : Int} (h : 0 <= n) (h' : n < 16000057) : IntKind.u8.wrap (IntKind.i64.wrap (n.tdiv 65536)) = ((byt (n / 65536)).toNat : Int) := by
  rw [u8w, byt_toNat, Int.tdiv_eq_ediv_of_nonneg h, i64_wrap (by omega) (by omega)]
theorem t2 {n : Int} (h : 0 <= n) (h' : n < 16000057) : IntKind.u8.wrap ((IntKind.i64.wrap (n.tdiv 256)).tmod 256) = ((byt (n / 256)).toNat : Int) := by
  rw [u8w, byt_toNat, Int.tdiv_eq_ediv_of_nonneg h, i64_wrap (by omega) (by omega), Int.tmod_eq_emod_of_nonneg (by omega)]; omega
theorem t3 {n : Int} (h : 0 <= n) : IntKind.u8.wrap (n.tmod 256) = ((byt n).toNat : Int) := by
  rw [u8w, byt_toNat, Int.tmod_eq_emod_of_nonneg h]; omega
theorem p16 : (2 : Int) ^ (min (16 : Int).toNat IntKind.i64.bits) = 65536 := by decide
theorem p8 : (2 : Int) ^ (min (8 : Int).toNat IntKind.i64.bits) = 256 := by decide
theorem s1 {n : Int} : IntKind.u8.wrap (n.fdiv (2 ^ (min (16 : Int).toNat IntKind.i64.bits))) = ((byt (n / 65536)).toNat : Int) := by
  rw [u8w, byt_toNat, p16, Int.fdiv_eq_ediv_of_nonneg _ (by decide)]
theorem s2 {n : Int} : IntKind.u8.wrap (n.fdiv (2 ^ (min (8 : Int).toNat IntKind.i64.bits))) = ((byt (n / 256)).toNat : Int) := by
  rw [u8w, byt_toNat, p8, Int.fdiv_eq_ediv_of_nonneg _ (by decide)]
theorem three_eq {a b c n : Int} (ha : a = ((byt (n / 65536)).toNat : Int)) (hb : b = ((byt (n / 256)).toNat : Int)) (hc : c = ((byt n).toNat : Int)) : [[AV.int .u8 a], [AV.int .u8 b], [AV.int .u8 c]] = (threeB n).map fun b => [AV.int .u8 (b.toNat : Int)] := by
  rw [ha, hb, hc]; rfl
theorem c_spec_l1Three (n : Int) (h0 : 0 <= n) (h1 : n < 16000057) : PC Tryz.prog false 115 [.int .i64 n] (.str (threeB n)) [] := by
  refine pc_at Tryz.func115 rfl (by kernel_rfl) 15 [.tmp 2] rfl rfl ?_
  repeat' (conv => whnf); first
 | refine sdA (by first | exact nbT rfl | exact rfl | omega | fail) ?_
 | refine sdA (by first | (and_intros <;> first | rfl | omega | exact nbT rfl) | fail) ?_
 | refine ⟨threeB n, three_eq (t1 h0 h1) (t2 h0 h1) (t3 h0), ?_⟩
 | fail
  all_goals
    conv => whnf
    exact OutA_plain rfl rfl rfl
theorem c_spec_l1Seal (s : List UInt8) (h : s.length <= 1073741824) : PC Tryz.prog false 79 [.str s] (.str (sealB s)) [] := by
  have hs := sumG_in s 7 (by omega)
  refine pc_at Tryz.func79 rfl (by kernel_rfl) 8 [.tmp 2] rfl rfl ?_
  repeat' (conv => whnf); first
 | exact side_of (by first | (simp only [threeB, List.length_cons, List.length_nil]; omega) | fail)
 | refine Call0 (c_spec_l1Sum s h) rfl rfl ?_
 | refine Call0 (c_spec_l1Three (sumB s) hs.1 hs.2) rfl rfl ?_
 | refine side_and ?_ ?_
 | fail
  all_goals
    conv => whnf
    exact OutA_plain rfl rfl rfl
theorem c_impl_seal (s : List UInt8) (h : s.length <= 1073741824) : PC Tryz.prog false 131 [.str s] (.str (sealB s)) [] := by
  refine pc_at Tryz.func131 rfl (by kernel_rfl) 18 [.tmp 2] rfl rfl ?_
  repeat' (conv => whnf); first
 | exact side_of (by first | (simp only [threeB, List.length_cons, List.length_nil]; omega) | fail)
 | refine Call0 (c_impl_sumOf s h) rfl rfl ?_
 | refine sdA (by first | exact nbT rfl | exact rfl | omega | fail) ?_
 | refine sdA (by first | (and_intros <;> first | rfl | omega | exact nbT rfl) | fail) ?_
 | refine side_and ?_ ?_
 | refine ⟨threeB (sumB s), three_eq s1 s2 b3, ?_⟩
 | fail
  all_goals
    conv => whnf
    exact OutA_plain rfl rfl rfl
theorem numG_fuel : ∀ (f g : Nat) (n : Int), n.toNat <= f -> n.toNat <= g -> numG f n = numG g n
  | 0, 0, _, _, _ => rfl
  | 0, g + 1, n, hf, _ => by
    unfold numG
    rw [if_neg (by omega)]
  | f + 1, 0, n, _, hg => by
    unfold numG
    rw [if_neg (by omega)]
  | f + 1, g + 1, n, hf, hg => by
    unfold numG
    by_cases h : n ≥ 128
    · rw [if_pos h, if_pos h]
      have := tdiv_128 h
      rw [numG_fuel f g (n.tdiv 128) (by omega) (by omega)]
    · rw [if_neg h, if_neg h]
theorem numB_ge {n : Int} (h : n ≥ 128) : numB n = byt (n % 128 + 128) :: numB (n.tdiv 128) := by
  have ht := tdiv_128 h
  obtain ⟨f, hf⟩ : ∃ f, n.toNat = f + 1 := ⟨n.toNat - 1, by omega⟩
  unfold numB
  rw [hf]
  conv => lhs; unfold numG
  rw [if_pos h, numG_fuel f (n.tdiv 128).toNat (n.tdiv 128) (by omega) (by omega)]
theorem numB_lt {n : Int} (h : ¬ n ≥ 128) : numB n = [byt n] := by
  unfold numB
  cases hf : n.toNat with
  | zero => rfl
  | succ f => unfold numG; rw [if_neg h]
theorem numB_last : ∀ (f : Nat) (n : Int), n.toNat <= f -> 0 <= n -> ∃ l x, numB n = l ++ [x] /\ x.toNat < 128
  | f, n, hf, h0 => by
    by_cases h : n ≥ 128
    · have ht := tdiv_128 h
      cases f with
      | zero => omega
      | succ f =>
        obtain ⟨l, x, e, hx⟩ := numB_last f (n.tdiv 128) (by omega) ht.1
        exact ⟨byt (n % 128 + 128) :: l, x, by rw [numB_ge h, e]; rfl, hx⟩
    · refine ⟨[], byt n, by rw [numB_lt h]; rfl, ?_⟩
      have := byt_toNat (n := n)
      omega
def finI (b : List UInt8) (s : Nat) (n : Int) (a : Nat) : Int × Nat × Bool := if numB n = (b.take a).drop s then (n, a, false) else (0, a, true)
def numL (b : List UInt8) (s : Nat) : Nat -> Int -> Int -> Nat -> Int × Nat × Bool
  | 0, _, _, a => (0, a, true)
  | f + 1, n, q, a =>
    match b[a]? with
    | none => (0, a, true)
    | some x =>
      if n + ((x.toNat % 128 : Nat) : Int) * q > 1000000000 \/ a + 1 - s > 5 then (0, a + 1, true)
      else if x.toNat < 128 then finI b s (n + ((x.toNat % 128 : Nat) : Int) * q) (a + 1)
      else numL b s f (n + ((x.toNat % 128 : Nat) : Int) * q) (q * 128) (a + 1)
def finS (b : List UInt8) (s : Nat) (n : Int) (a : Nat) : Int × Nat × Bool := if n > 1000000000 \/ numB n ≠ (b.take a).drop s then (0, a, true) else (n, a, false)
def numM (b : List UInt8) (s : Nat) : Nat -> Int -> Int -> Nat -> Int × Nat × Bool
  | 0, n, _, a => finS b s n a
  | f + 1, n, q, a =>
    match b[a]? with
    | none => (0, a, true)
    | some x =>
      if x.toNat < 128 then finS b s (n + ((x.toNat % 128 : Nat) : Int) * q) (a + 1)
      else numM b s f (n + ((x.toNat % 128 : Nat) : Int) * q) (q * 128) (a + 1)
def RelG {α : Type} (r t : α × Nat × Bool) : Prop := r.2.2 = t.2.2 /\ (t.2.2 = false -> r = t)
theorem RelG.refl {α : Type} (r : α × Nat × Bool) : RelG r r := ⟨rfl, fun _ => rfl⟩
theorem RelG.bad {α : Type} {r t : α × Nat × Bool} (h : r.2.2 = true) (h' : t.2.2 = true) : RelG r t := ⟨by rw [h, h'], fun e => by rw [h'] at e; cases e⟩
theorem numM_big {b : List UInt8} {s : Nat} : ∀ (f : Nat) (n q : Int) (a : Nat), n > 1000000000 -> 0 <= q -> (numM b s f n q a).2.2 = true
  | 0, n, q, a, h, _ => by unfold numM finS; rw [if_pos (.inl h)]
  | f + 1, n, q, a, h, hq => by
    unfold numM
    cases hx : b[a]? with
    | none => rfl
    | some x =>
      simp only
      have h1 : 0 <= ((x.toNat % 128 : Nat) : Int) * q := Int.mul_nonneg (by omega) hq
      by_cases hl : x.toNat < 128
      · rw [if_pos hl]
        unfold finS
        rw [if_pos (.inl (by omega))]
      · rw [if_neg hl]
        exact numM_big f _ _ _ (by omega) (by omega)
theorem num_rel {b : List UInt8} {s : Nat} : ∀ (f : Nat) (n q : Int) (a : Nat), f <= 5 -> a = s + (5 - f) -> 0 <= n -> n <= 1000000000 -> 0 <= q -> (a = s \/ ∃ x, b[a - 1]? = some x /\ 128 <= x.toNat) -> RelG (numL b s (f + 1) n q a) (numM b s f n q a)
  | 0, n, q, a, _, ha, h0, h1, hq, hl => by
    have hS : (numM b s 0 n q a).2.2 = true := by
      unfold numM finS
      rw [if_pos]
      right
      intro e
      obtain ⟨x, hx, hx2⟩ := hl.resolve_left (by omega)
      obtain ⟨l, y, e2, hy⟩ := numB_last n.toNat n (Nat.le_refl _) h0
      have hlt := (List.getElem?_eq_some_iff.1 hx).1
      have e3 : (b.take a).drop s = ((b.take (a - 1)).drop s) ++ [x] := by
        have e4 : b.take a = b.take (a - 1) ++ [x] := by
          rw [show a = (a - 1) + 1 by omega, List.take_add_one, hx]
          simp
        rw [e4, List.drop_append_of_le_length (by rw [List.length_take]; omega)]
      rw [e3, e2] at e
      have := List.append_inj_right' e rfl
      cases this
      omega
    have hL : (numL b s (0 + 1) n q a).2.2 = true := by
      unfold numL
      cases hx : b[a]? with
      | none => rfl
      | some x =>
        simp only
        rw [if_pos (.inr (by omega))]
    exact .bad hL hS
  | f + 1, n, q, a, hf, ha, h0, h1, hq, hl => by
    unfold numL numM
    cases hx : b[a]? with
    | none => exact .refl _
    | some x =>
      simp only
      have h2 : 0 <= ((x.toNat % 128 : Nat) : Int) * q := Int.mul_nonneg (by omega) hq
      by_cases hb : n + ((x.toNat % 128 : Nat) : Int) * q > 1000000000
      · rw [if_pos (.inl hb)]
        refine .bad rfl ?_
        by_cases hl2 : x.toNat < 128
        · rw [if_pos hl2]; unfold finS; rw [if_pos (.inl hb)]
        · rw [if_neg hl2]; exact numM_big f _ _ _ hb (by omega)
      · rw [if_neg (fun h => h.elim hb (fun h => by omega))]
        by_cases hl2 : x.toNat < 128
        · rw [if_pos hl2, if_pos hl2]
          unfold finI finS
          by_cases he : numB (n + ((x.toNat % 128 : Nat) : Int) * q) = (b.take (a + 1)).drop s
          · rw [if_pos he, if_neg (fun h => h.elim hb (fun h => h he))]; exact .refl _
          · rw [if_neg he, if_pos (.inr he)]; exact .refl _
        · rw [if_neg hl2, if_neg hl2]
          clear hl
          exact num_rel f _ _ _ (by omega) (by omega) (by omega) (by omega) (by omega) (.inr ⟨x, by rw [Nat.add_sub_cancel]; exact hx, by omega⟩)
def numFI (b : List UInt8) (a : Nat) (f : Bool) : Int × Nat × Bool := match f with | true => (0, a, true) | false => numL b a 6 0 1 a
def numFS (b : List UInt8) (a : Nat) (f : Bool) : Int × Nat × Bool := match f with | true => (0, a, true) | false => numM b a 5 0 1 a
theorem numF_rel {b : List UInt8} {a : Nat} {f : Bool} : RelG (numFI b a f) (numFS b a f) := by
  cases f with
  | true => exact .refl _
  | false => exact num_rel 5 0 1 a (Nat.le_refl _) (by omega) (by omega) (by omega) (by omega) (.inl rfl)
structure OkN (b : List UInt8) (a : Nat) (r : Int × Nat × Bool) : Prop where
  lo : a <= r.2.1
  hi : r.2.1 <= b.length
  nn : 0 <= r.1
  le : r.1 <= 1000000000
  go : r.2.2 = false -> a < r.2.1
  bad : r.2.2 = true -> r.1 = 0
theorem numL_ok {b : List UInt8} {s : Nat} : ∀ (f : Nat) (n q : Int) (a : Nat), 0 <= n -> 0 <= q -> a <= b.length -> OkN b a (numL b s f n q a)
  | 0, n, q, a, _, _, ha => ⟨Nat.le_refl _, ha, Int.le_refl _, by show (0 : Int) <= _; omega, fun e => (by cases e), fun _ => rfl⟩
  | f + 1, n, q, a, h0, hq, ha => by
    unfold numL
    cases hx : b[a]? with
    | none => exact ⟨Nat.le_refl _, ha, Int.le_refl _, by show (0 : Int) <= _; omega, fun e => (by cases e), fun _ => rfl⟩
    | some x =>
      simp only
      have hlt := (List.getElem?_eq_some_iff.1 hx).1
      have h2 : 0 <= ((x.toNat % 128 : Nat) : Int) * q := Int.mul_nonneg (by omega) hq
      by_cases hb : n + ((x.toNat % 128 : Nat) : Int) * q > 1000000000 \/ a + 1 - s > 5
      · rw [if_pos hb]
        exact ⟨Nat.le_succ _, hlt, Int.le_refl _, by show (0 : Int) <= _; omega, fun e => (by cases e), fun _ => rfl⟩
      · rw [if_neg hb]
        have hb1 : ¬ n + ((x.toNat % 128 : Nat) : Int) * q > 1000000000 := fun h => hb (.inl h)
        by_cases hl : x.toNat < 128
        · rw [if_pos hl]
          unfold finI
          by_cases he : numB (n + ((x.toNat % 128 : Nat) : Int) * q) = (b.take (a + 1)).drop s
          · rw [if_pos he]
            exact ⟨Nat.le_succ _, hlt, by show 0 <= n + _; omega, by show n + _ <= _; omega, fun _ => Nat.lt_succ_self _, fun e => by cases e⟩
          · rw [if_neg he]
            exact ⟨Nat.le_succ _, hlt, Int.le_refl _, by show (0 : Int) <= _; omega, fun e => (by cases e), fun _ => rfl⟩
        · rw [if_neg hl]
          have := numL_ok (b := b) (s := s) f (n + ((x.toNat % 128 : Nat) : Int) * q) (q * 128) (a + 1) (by omega) (by omega) hlt
          exact ⟨Nat.le_trans (Nat.le_succ _) this.lo, this.hi, this.nn, this.le, fun e => Nat.lt_of_lt_of_le (Nat.lt_succ_self _) this.lo, this.bad⟩
structure OkM (b : List UInt8) (a : Nat) (r : Int × Nat × Bool) : Prop where
  lo : a <= r.2.1
  hi : r.2.1 <= b.length
  nn : 0 <= r.1
  le : r.1 <= 1000000000
  bad : r.2.2 = true -> r.1 = 0
theorem OkM.fail {b : List UInt8} {a c : Nat} (h : a <= c) (h2 : c <= b.length) : OkM b a (0, c, true) := ⟨h, h2, Int.le_refl _, by show (0 : Int) <= _; omega, fun _ => rfl⟩
theorem finS_ok {b : List UInt8} {s a : Nat} {n : Int} (h0 : 0 <= n) (ha : a <= b.length) : OkM b a (finS b s n a) := by
  unfold finS
  by_cases h : n > 1000000000 \/ numB n ≠ (b.take a).drop s
  · rw [if_pos h]; exact .fail (Nat.le_refl _) ha
  · rw [if_neg h]; exact ⟨Nat.le_refl _, ha, h0, Int.not_lt.1 fun e => h (.inl e), fun e => by cases e⟩
theorem OkM.up {b : List UInt8} {a c : Nat} {r : Int × Nat × Bool} (h : OkM b c r) (hc : a <= c) : OkM b a r := ⟨Nat.le_trans hc h.lo, h.hi, h.nn, h.le, h.bad⟩
theorem numM_ok {b : List UInt8} {s : Nat} : ∀ (f : Nat) (n q : Int) (a : Nat), 0 <= n -> 0 <= q -> a <= b.length -> OkM b a (numM b s f n q a)
  | 0, n, q, a, h0, _, ha => finS_ok h0 ha
  | f + 1, n, q, a, h0, hq, ha => by
    unfold numM
    cases hx : b[a]? with
    | none => exact .fail (Nat.le_refl _) ha
    | some x =>
      simp only
      have hlt := (List.getElem?_eq_some_iff.1 hx).1
      have h2 : 0 <= ((x.toNat % 128 : Nat) : Int) * q := Int.mul_nonneg (by omega) hq
      by_cases hl : x.toNat < 128
      · rw [if_pos hl]; exact (finS_ok (by omega) hlt).up (Nat.le_succ _)
      · rw [if_neg hl]; exact (numM_ok f _ _ _ (by omega) (by omega) hlt).up (Nat.le_succ _)
theorem numFI_ok {b : List UInt8} {a : Nat} {f : Bool} (ha : a <= b.length) : OkN b a (numFI b a f) := by
  cases f with
  | true => exact ⟨Nat.le_refl _, ha, Int.le_refl _, by show (0 : Int) <= _; omega, fun e => (by cases e), fun _ => rfl⟩
  | false => exact numL_ok 6 0 1 a (by omega) (by omega) ha
theorem numFS_ok {b : List UInt8} {a : Nat} {f : Bool} (ha : a <= b.length) : OkN b a (numFS b a f) := by
  cases f with
  | true => exact ⟨Nat.le_refl _, ha, Int.le_refl _, by show (0 : Int) <= _; omega, fun e => (by cases e), fun _ => rfl⟩
  | false =>
    have h := numM_ok (b := b) (s := a) 5 0 1 a (by omega) (by omega) ha
    refine ⟨h.lo, h.hi, h.nn, h.le, fun e => ?_, h.bad⟩
    have e : (numM b a 5 0 1 a).2.2 = false := e
    show a < (numM b a 5 0 1 a).2.1
    unfold numM at e ⊢
    cases hx : b[a]? with
    | none => rw [hx] at e; cases e
    | some x =>
      rw [hx] at e
      simp only at e ⊢
      have hlt := (List.getElem?_eq_some_iff.1 hx).1
      have h2 : 0 <= ((x.toNat % 128 : Nat) : Int) * 1 := Int.mul_nonneg (by omega) (by omega)
      by_cases hl : x.toNat < 128
      · rw [if_pos hl]; exact Nat.lt_of_lt_of_le (Nat.lt_succ_self _) (finS_ok (by omega) hlt).lo
      · rw [if_neg hl]; exact Nat.lt_of_lt_of_le (Nat.lt_succ_self _) (numM_ok 4 _ _ _ (by omega) (by omega) hlt).lo
def takeF (b : List UInt8) (a : Nat) (f : Bool) (n : Int) : List UInt8 × Nat × Bool :=
  match f with
  | true => ([], a, true)
  | false => if n > (b.length : Int) - a then ([], a, true) else ((b.take (a + n.toNat)).drop a, a + n.toNat, false)
def oneF (b : List UInt8) (a : Nat) (f : Bool) : Int × Nat × Bool :=
  match f with
  | true => (0, a, true)
  | false => match b[a]? with | none => (0, a, true) | some x => ((x.toNat : Int), a + 1, false)
structure OkA {α : Type} (b : List UInt8) (a : Nat) (r : α × Nat × Bool) : Prop where
  lo : a <= r.2.1
  hi : r.2.1 <= b.length
theorem takeF_ok {b : List UInt8} {a : Nat} {f : Bool} {n : Int} (ha : a <= b.length) (hn : 0 <= n) : OkA b a (takeF b a f n) := by
  cases f with
  | true => exact ⟨Nat.le_refl _, ha⟩
  | false =>
    unfold takeF
    by_cases h : n > (b.length : Int) - a
    · simp only [if_pos h]; exact ⟨Nat.le_refl _, ha⟩
    · simp only [if_neg h]; exact ⟨Nat.le_add_right _ _, by show a + n.toNat <= _; omega⟩
theorem oneF_ok {b : List UInt8} {a : Nat} {f : Bool} (ha : a <= b.length) : OkA b a (oneF b a f) := by
  cases f with
  | true => exact ⟨Nat.le_refl _, ha⟩
  | false =>
    unfold oneF
    cases hx : b[a]? with
    | none => exact ⟨Nat.le_refl _, ha⟩
    | some x => exact ⟨Nat.le_succ _, (List.getElem?_eq_some_iff.1 hx).1⟩
def textFI (b : List UInt8) (a : Nat) (f : Bool) : List UInt8 × Nat × Bool :=
  if (numFI b a f).1 > 60 then ([], (numFI b a f).2.1, true) else takeF b (numFI b a f).2.1 (numFI b a f).2.2 (numFI b a f).1
def textFS (b : List UInt8) (a : Nat) (f : Bool) : List UInt8 × Nat × Bool :=
  if (numFS b a f).2.2 = true \/ (numFS b a f).1 > 60 \/ ((numFS b a f).2.1 : Int) + (numFS b a f).1 > b.length then ([], (numFS b a f).2.1, true)
  else ((b.take ((numFS b a f).2.1 + (numFS b a f).1.toNat)).drop (numFS b a f).2.1, (numFS b a f).2.1 + (numFS b a f).1.toNat, false)
theorem textF_rel {b : List UInt8} {a : Nat} {f : Bool} (ha : a <= b.length) : RelG (textFI b a f) (textFS b a f) := by
  have h := numF_rel (b := b) (a := a) (f := f)
  have ok := numFS_ok (b := b) (f := f) ha
  have oi := numFI_ok (b := b) (f := f) ha
  unfold textFI textFS
  cases hb : (numFS b a f).2.2 with
  | true =>
    rw [if_pos (c := true = true \/ _) (.inl rfl)]
    have hi : (numFI b a f).2.2 = true := h.1.trans hb
    rw [if_neg (by rw [oi.bad hi]; omega), hi]
    exact .bad rfl rfl
  | false =>
    rw [h.2 hb]
    by_cases h1 : (numFS b a f).1 > 60
    · rw [if_pos h1, if_pos (c := (false = true \/ (numFS b a f).1 > 60 \/ ((numFS b a f).2.1 : Int) + (numFS b a f).1 > b.length)) (.inr (.inl h1))]; exact .bad rfl rfl
    · rw [if_neg h1, hb]
      unfold takeF
      have nn := ok.nn
      by_cases h2 : ((numFS b a f).2.1 : Int) + (numFS b a f).1 > b.length
      · rw [if_pos (c := (false = true \/ (numFS b a f).1 > 60 \/ ((numFS b a f).2.1 : Int) + (numFS b a f).1 > b.length)) (.inr (.inr h2))]
        simp only
        rw [if_pos (by omega)]
        exact .bad rfl rfl
      · rw [if_neg (c := (false = true \/ (numFS b a f).1 > 60 \/ ((numFS b a f).2.1 : Int) + (numFS b a f).1 > b.length)) (fun e => e.elim (fun e => by cases e) (fun e => e.elim h1 h2))]
        simp only
        rw [if_neg (by omega)]
        exact .refl _
theorem textFI_ok {b : List UInt8} {a : Nat} {f : Bool} (ha : a <= b.length) : OkA b a (textFI b a f) := by
  have ok := numFI_ok (b := b) (f := f) ha
  unfold textFI
  by_cases h : (numFI b a f).1 > 60
  · rw [if_pos h]; exact ⟨ok.lo, ok.hi⟩
  · rw [if_neg h]
    have := takeF_ok (b := b) (f := (numFI b a f).2.2) (n := (numFI b a f).1) ok.hi ok.nn
    exact ⟨Nat.le_trans ok.lo this.lo, this.hi⟩
theorem textFS_ok {b : List UInt8} {a : Nat} {f : Bool} (ha : a <= b.length) : OkA b a (textFS b a f) := by
  have ok := numFS_ok (b := b) (f := f) ha
  unfold textFS
  have nn := ok.nn
  have lo := ok.lo
  by_cases h : (numFS b a f).2.2 = true \/ (numFS b a f).1 > 60 \/ ((numFS b a f).2.1 : Int) + (numFS b a f).1 > b.length
  · rw [if_pos h]; exact ⟨ok.lo, ok.hi⟩
  · rw [if_neg h]
    have h2 : ¬ ((numFS b a f).2.1 : Int) + (numFS b a f).1 > b.length := fun e => h (.inr (.inr e))
    exact ⟨by show a <= _ + _; omega, by show _ + _ <= _; omega⟩
theorem takeF_len {b : List UInt8} {a : Nat} {f : Bool} {n : Int} (hn : 0 <= n) : ((takeF b a f n).1.length : Int) <= n := by
  cases f with
  | true => exact hn
  | false =>
    unfold takeF
    by_cases h : n > (b.length : Int) - a
    · simp only [if_pos h]; exact hn
    · simp only [if_neg h, List.length_drop, List.length_take]; omega
theorem textFI_len {b : List UInt8} {a : Nat} {f : Bool} (ha : a <= b.length) : (textFI b a f).1.length <= 60 := by
  have ok := numFI_ok (b := b) (f := f) ha
  unfold textFI
  by_cases h : (numFI b a f).1 > 60
  · rw [if_pos h]; exact Nat.zero_le _
  · rw [if_neg h]
    have := takeF_len (b := b) (a := (numFI b a f).2.1) (f := (numFI b a f).2.2) ok.nn
    omega
theorem textFI_go {b : List UInt8} {a : Nat} (ha : a <= b.length) (h : (textFI b a false).2.2 = false) : a < (textFI b a false).2.1 := by
  have ok := numFI_ok (b := b) (f := false) ha
  unfold textFI at h ⊢
  by_cases h1 : (numFI b a false).1 > 60
  · rw [if_pos h1] at h; cases h
  · rw [if_neg h1] at h ⊢
    cases hb : (numFI b a false).2.2 with
    | true => rw [hb] at h; cases h
    | false =>
      have g := ok.go hb
      have := takeF_ok (b := b) (f := false) (n := (numFI b a false).1) ok.hi ok.nn
      exact Nat.lt_of_lt_of_le g this.lo
def manyG {α : Type} (rd : Nat -> α × Nat × Bool) : Nat -> List α -> Nat -> Bool -> List α × Nat × Bool
  | 0, out, a, f => (out, a, f)
  | k + 1, out, a, f => match f with | true => (out, a, true) | false => manyG rd k (out ++ [(rd a).1]) (rd a).2.1 (rd a).2.2
theorem manyG_bad {α : Type} {rd : Nat -> α × Nat × Bool} {k : Nat} {out : List α} {a : Nat} : manyG rd k out a true = (out, a, true) := by cases k <;> rfl
theorem manyG_go {α : Type} {rd : Nat -> α × Nat × Bool} {k : Nat} {out : List α} {a : Nat} {B : List α × Nat × Bool} (h : manyG rd k out a false = B) (hk : 0 < k) : manyG rd (k - 1) (out ++ [(rd a).1]) (rd a).2.1 (rd a).2.2 = B := by
  obtain ⟨k, rfl⟩ : ∃ j, k = j + 1 := ⟨k - 1, by omega⟩
  exact h
theorem manyG_end {α : Type} {rd : Nat -> α × Nat × Bool} {k : Nat} {out : List α} {a : Nat} {f : Bool} {B : List α × Nat × Bool} (h : manyG rd k out a f = B) (hk : k = 0 \/ f = true) : (out, a, f) = B := by
  rcases hk with rfl | rfl
  · exact h
  · rw [manyG_bad] at h; exact h
theorem manyG_rel {α : Type} {b : List UInt8} {rd rt : Nat -> α × Nat × Bool} (hr : ∀ a, a <= b.length -> RelG (rd a) (rt a)) (ho : ∀ a, a <= b.length -> OkA b a (rd a)) : ∀ (k : Nat) (out out' : List α) (a a' : Nat) (f : Bool), (f = false -> out = out' /\ a = a' /\ a <= b.length) -> RelG (manyG rd k out a f) (manyG rt k out' a' f)
  | 0, out, out', a, a', f, h => ⟨rfl, fun e => by obtain ⟨h1, h2, _⟩ := h e; show (out, a, f) = (out', a', f); rw [h1, h2]⟩
  | k + 1, out, out', a, a', true, h => .bad rfl rfl
  | k + 1, out, out', a, a', false, h => by
    obtain ⟨rfl, rfl, ha⟩ := h rfl
    have h1 := hr a ha
    show RelG (manyG rd k _ _ _) (manyG rt k _ _ _)
    rw [h1.1]
    refine manyG_rel hr ho k _ _ _ _ _ fun e => ?_
    rw [h1.2 e]
    exact ⟨rfl, rfl, by rw [<- h1.2 e]; exact (ho a ha).hi⟩
def textsFI (b : List UInt8) (a : Nat) (f : Bool) : List (List UInt8) × Nat × Bool := manyG (fun a => textFI b a false) (numFI b a f).1.toNat [] (numFI b a f).2.1 ((numFI b a f).2.2 || decide ((numFI b a f).1 > 40))
def textsFS (b : List UInt8) (a : Nat) (f : Bool) : List (List UInt8) × Nat × Bool := manyG (fun a => textFS b a false) (numFS b a f).1.toNat [] (numFS b a f).2.1 ((numFS b a f).2.2 || decide ((numFS b a f).1 > 40))
theorem textsF_rel {b : List UInt8} {a : Nat} {f : Bool} (ha : a <= b.length) : RelG (textsFI b a f) (textsFS b a f) := by
  have h := numF_rel (b := b) (a := a) (f := f)
  have ok := numFS_ok (b := b) (f := f) ha
  unfold textsFI textsFS
  cases hb : (numFS b a f).2.2 with
  | true =>
    simp only [h.1, hb, Bool.true_or, manyG_bad]
    exact .bad rfl rfl
  | false =>
    rw [h.2 hb, hb]
    exact manyG_rel (fun a ha => textF_rel ha) (fun a ha => textFI_ok ha) _ _ _ _ _ _ fun _ => ⟨rfl, rfl, ok.hi⟩
theorem manyG_ok {α : Type} {b : List UInt8} {rd : Nat -> α × Nat × Bool} (ho : ∀ a, a <= b.length -> OkA b a (rd a)) : ∀ (k : Nat) (out : List α) (a : Nat) (f : Bool), a <= b.length -> OkA b a (manyG rd k out a f)
  | 0, out, a, f, ha => ⟨Nat.le_refl _, ha⟩
  | k + 1, out, a, true, ha => ⟨Nat.le_refl _, ha⟩
  | k + 1, out, a, false, ha => by
    have h := ho a ha
    have := manyG_ok ho k (out ++ [(rd a).1]) (rd a).2.1 (rd a).2.2 h.hi
    exact ⟨Nat.le_trans h.lo this.lo, this.hi⟩
theorem textsFI_ok {b : List UInt8} {a : Nat} {f : Bool} (ha : a <= b.length) : OkA b a (textsFI b a f) := by
  have ok := numFI_ok (b := b) (f := f) ha
  have := manyG_ok (b := b) (rd := fun a => textFI b a false) (fun a ha => textFI_ok ha) (numFI b a f).1.toNat [] (numFI b a f).2.1 ((numFI b a f).2.2 || decide ((numFI b a f).1 > 40)) ok.hi
  exact ⟨Nat.le_trans ok.lo this.lo, this.hi⟩
theorem textsFS_ok {b : List UInt8} {a : Nat} {f : Bool} (ha : a <= b.length) : OkA b a (textsFS b a f) := by
  have ok := numFS_ok (b := b) (f := f) ha
  have := manyG_ok (b := b) (rd := fun a => textFS b a false) (fun a ha => textFS_ok ha) (numFS b a f).1.toNat [] (numFS b a f).2.1 ((numFS b a f).2.2 || decide ((numFS b a f).1 > 40)) ok.hi
  exact ⟨Nat.le_trans ok.lo this.lo, this.hi⟩
theorem manyG_all {α : Type} {rd : Nat -> α × Nat × Bool} {b : List UInt8} {p : α -> Prop} (ho : ∀ a, a <= b.length -> OkA b a (rd a)) (hp : ∀ a, a <= b.length -> p (rd a).1) : ∀ (k : Nat) (out : List α) (a : Nat) (f : Bool), a <= b.length -> (∀ x ∈ out, p x) -> (∀ x ∈ (manyG rd k out a f).1, p x) /\ (manyG rd k out a f).1.length <= out.length + k
  | 0, out, a, f, ha, h => ⟨h, Nat.le_refl _⟩
  | k + 1, out, a, true, ha, h => ⟨h, by show out.length <= _; omega⟩
  | k + 1, out, a, false, ha, h => by
    have := manyG_all ho hp k (out ++ [(rd a).1]) (rd a).2.1 (rd a).2.2 (ho a ha).hi (fun x hx => by
      rcases List.mem_append.1 hx with hx | hx
      · exact h x hx
      · rw [List.mem_singleton.1 hx]; exact hp a ha)
    refine ⟨this.1, ?_⟩
    have h2 := this.2
    rw [laT] at h2
    show (manyG rd k _ _ _).1.length <= _
    simp only [List.length_cons, List.length_nil] at h2
    omega
def bnd9 : Nat -> Int
  | 0 => 1000000000
  | 1 => 7812500
  | 2 => 61035
  | 3 => 476
  | 4 => 3
  | _ => 0
theorem bnd9_next {k : Nat} {n : Int} (h : n <= bnd9 k) (hn : n ≥ 128) : n.tdiv 128 <= bnd9 (k + 1) /\ k <= 3 := by
  rw [Int.tdiv_eq_ediv_of_nonneg (by omega)]
  match k with
  | 0 => simp only [bnd9] at h ⊢; omega
  | 1 => simp only [bnd9] at h ⊢; omega
  | 2 => simp only [bnd9] at h ⊢; omega
  | 3 => simp only [bnd9] at h ⊢; omega
  | 4 => simp only [bnd9] at h; omega
  | k + 5 => simp only [bnd9] at h; omega
theorem bnd9_le {k : Nat} : bnd9 k <= 1000000000 := by
  match k with
  | 0 => simp [bnd9]
  | 1 => simp [bnd9]
  | 2 => simp [bnd9]
  | 3 => simp [bnd9]
  | 4 => simp [bnd9]
  | k + 5 => simp [bnd9]
theorem numB_go {out B : List UInt8} {n : Int} (h : out ++ numB n = B) (hn : n ≥ 128) : (out ++ [byt (n % 128 + 128)]) ++ numB (n.tdiv 128) = B := by
  rw [numB_ge hn] at h
  rw [List.append_assoc]
  exact h
theorem numB_fin {out B : List UInt8} {n : Int} (h : out ++ numB n = B) (hn : ¬ n ≥ 128) : out ++ [byt n] = B := by
  rw [numB_lt hn] at h
  exact h
theorem c_impl_numBytes9 (n0 : Int) (h0 : 0 <= n0) (h1 : n0 <= 1000000000) : PC Tryz.prog false 95 [.int .i64 n0] (.str (numB n0)) [] := by
  refine pc_at Tryz.func95 rfl (by kernel_rfl) 22 [.tmp 2] rfl rfl ?_
  repeat' (conv => whnf); first
 | refine side_and (side_of (one_lenC rfl rfl)) ?_
 | refine sdA (by first | (and_intros <;> first | exact nbT rfl | rfl | (intro e; exact absurd (AV.own.inj e) (by decide)) | (intro e; exact AV.noConfusion e)) | fail) ?_
 | refine side_and (side_of (app_boundC (L := out.map bC) rfl (by (try simp only [List.length_map, laT, List.length_take, List.length_set, List.length_drop]); omega) (nbT rfl))) ?_
 | (refine nameB_dec (fun h => ?_) (fun h => ?_) <;> try simp only [lensB] at h)
 | refine splitB_true ?_
 | refine splitB_false ?_
 | ((refine Loop_nil 3 1 5 1 rfl rfl (by decide) ?_; refine Loop_at [] [] (Int × List UInt8) (fun j => match j with | (n, out) => 0 <= n /\ out ++ numB n = numB n0 /\ n <= bnd9 out.length /\ out.length <= 5) (fun j => match j with | (n, out) => [(0, .int .i64 n), (3, .own 1)]) (fun j => match j with | (n, out) => [(1, ⟨false, 5, 1, out.map bC⟩)]) (fun j => match j with | (n, out) => n.toNat) (n0, []) ⟨by first | first | rfl | exact congrArg (AV.int .i64) (i64_wrap (by have ht := tdiv_128 (n := n) ‹_›; omega) (by have hb := bnd9_next hT.2.2.1 ‹_›; have hb2 := bnd9_le (k := out.length + 1); omega)) | rfl | fail, by first | rfl | first | rfl | exact congrArg (AV.int .i64) (i64_wrap (by have ht := tdiv_128 (n := n) ‹_›; omega) (by have hb := bnd9_next hT.2.2.1 ‹_›; have hb2 := bnd9_le (k := out.length + 1); omega)) | fail, trivial⟩ ⟨by first | rfl | first | exact congrArg (fun e => some (AObj.mk _ _ _ e)) (bapp (congrArg (fun x => [[AV.int .u8 x]]) (b1 hT.1))) | exact congrArg (fun e => some (AObj.mk _ _ _ e)) (bapp (congrArg (fun x => [[AV.int .u8 x]]) (b2 hT.1))) | fail | fail, trivial⟩ (by (try dsimp only); first | (exact ⟨h0, rfl, h1, Nat.zero_le _⟩) | fail) ?_; (conv => whnf); refine side_and (side_of (by first | exact fun ⟨n, out⟩ => rfl | exact fun ⟨n, out⟩ => by simp [headOk, closedE, closedO, closedL, AV.closed, hcap.closed, hasId, AObj.box, BK.ofB])) ?_; rintro ⟨n, out⟩ hT; try dsimp only at hT))
 | (refine Again_of (n.tdiv 128, out ++ [byt (n % 128 + 128)]) ⟨by first | first | rfl | exact congrArg (AV.int .i64) (i64_wrap (by have ht := tdiv_128 (n := n) ‹_›; omega) (by have hb := bnd9_next hT.2.2.1 ‹_›; have hb2 := bnd9_le (k := out.length + 1); omega)) | rfl | fail, by first | rfl | first | rfl | exact congrArg (AV.int .i64) (i64_wrap (by have ht := tdiv_128 (n := n) ‹_›; omega) (by have hb := bnd9_next hT.2.2.1 ‹_›; have hb2 := bnd9_le (k := out.length + 1); omega)) | fail, trivial⟩ ⟨by first | rfl | first | exact congrArg (fun e => some (AObj.mk _ _ _ e)) (bapp (congrArg (fun x => [[AV.int .u8 x]]) (b1 hT.1))) | exact congrArg (fun e => some (AObj.mk _ _ _ e)) (bapp (congrArg (fun x => [[AV.int .u8 x]]) (b2 hT.1))) | fail | fail, trivial⟩ (by first | (and_intros <;> first | rfl | trivial) | fail) (by first | (and_intros <;> first | rfl | trivial) | fail) rfl rfl rfl (by (try dsimp only); first | ((have ht := tdiv_128 (n := n) ‹_›; have hb := bnd9_next hT.2.2.1 ‹_›; exact ⟨ht.1, numB_go hT.2.1 ‹_›, by rw [laT]; exact hb.1, by rw [laT]; show out.length + 1 <= _; omega⟩)) | fail) (show _ < _ by (try dsimp only); (have ht := tdiv_128 (n := n) ‹_›; omega)))
 | refine sdA (by first | exact nbT rfl | exact rfl | omega | fail) ?_
 | refine ⟨out ++ [byt n], bapp (congrArg (fun x => [[AV.int .u8 x]]) b3), ?_⟩
 | fail
  all_goals
    conv => whnf
    refine OutA_plain rfl rfl ?_
    exact congrArg AV.str (numB_fin hT.2.1 ‹_›)
theorem c_spec_l1NumB9 (n0 : Int) (h0 : 0 <= n0) (h1 : n0 <= 1000000000) : PC Tryz.prog false 77 [.int .i64 n0] (.str (numB n0)) [] := by
  refine pc_at Tryz.func77 rfl (by kernel_rfl) 21 [.tmp 2] rfl rfl ?_
  repeat' (conv => whnf); first
 | refine side_and (side_of (one_lenC rfl rfl)) ?_
 | refine sdA (by first | (and_intros <;> first | exact nbT rfl | rfl | (intro e; exact absurd (AV.own.inj e) (by decide)) | (intro e; exact AV.noConfusion e)) | fail) ?_
 | refine side_and (side_of (app_boundC (L := out.map bC) rfl (by (try simp only [List.length_map, laT, List.length_take, List.length_set, List.length_drop]); omega) (nbT rfl))) ?_
 | (refine nameB_dec (fun h => ?_) (fun h => ?_) <;> try simp only [lensB] at h)
 | refine splitB_true ?_
 | refine splitB_false ?_
 | ((refine Loop_nil 3 1 5 1 rfl rfl (by decide) ?_; refine Loop_at [] [] (Int × List UInt8) (fun j => match j with | (n, out) => 0 <= n /\ out ++ numB n = numB n0 /\ n <= bnd9 out.length /\ out.length <= 5) (fun j => match j with | (n, out) => [(0, .int .i64 n), (3, .own 1)]) (fun j => match j with | (n, out) => [(1, ⟨false, 5, 1, out.map bC⟩)]) (fun j => match j with | (n, out) => n.toNat) (n0, []) ⟨by first | first | rfl | exact congrArg (AV.int .i64) (i64_wrap (by have ht := tdiv_128 (n := n) ‹_›; omega) (by have hb := bnd9_next hT.2.2.1 ‹_›; have hb2 := bnd9_le (k := out.length + 1); omega)) | rfl | fail, by first | rfl | first | rfl | exact congrArg (AV.int .i64) (i64_wrap (by have ht := tdiv_128 (n := n) ‹_›; omega) (by have hb := bnd9_next hT.2.2.1 ‹_›; have hb2 := bnd9_le (k := out.length + 1); omega)) | fail, trivial⟩ ⟨by first | rfl | first | exact congrArg (fun e => some (AObj.mk _ _ _ e)) (bapp (congrArg (fun x => [[AV.int .u8 x]]) (b1 hT.1))) | exact congrArg (fun e => some (AObj.mk _ _ _ e)) (bapp (congrArg (fun x => [[AV.int .u8 x]]) (b2 hT.1))) | fail | fail, trivial⟩ (by (try dsimp only); first | (exact ⟨h0, rfl, h1, Nat.zero_le _⟩) | fail) ?_; (conv => whnf); refine side_and (side_of (by first | exact fun ⟨n, out⟩ => rfl | exact fun ⟨n, out⟩ => by simp [headOk, closedE, closedO, closedL, AV.closed, hcap.closed, hasId, AObj.box, BK.ofB])) ?_; rintro ⟨n, out⟩ hT; try dsimp only at hT))
 | (refine Again_of (n.tdiv 128, out ++ [byt (n % 128 + 128)]) ⟨by first | first | rfl | exact congrArg (AV.int .i64) (i64_wrap (by have ht := tdiv_128 (n := n) ‹_›; omega) (by have hb := bnd9_next hT.2.2.1 ‹_›; have hb2 := bnd9_le (k := out.length + 1); omega)) | rfl | fail, by first | rfl | first | rfl | exact congrArg (AV.int .i64) (i64_wrap (by have ht := tdiv_128 (n := n) ‹_›; omega) (by have hb := bnd9_next hT.2.2.1 ‹_›; have hb2 := bnd9_le (k := out.length + 1); omega)) | fail, trivial⟩ ⟨by first | rfl | first | exact congrArg (fun e => some (AObj.mk _ _ _ e)) (bapp (congrArg (fun x => [[AV.int .u8 x]]) (b1 hT.1))) | exact congrArg (fun e => some (AObj.mk _ _ _ e)) (bapp (congrArg (fun x => [[AV.int .u8 x]]) (b2 hT.1))) | fail | fail, trivial⟩ (by first | (and_intros <;> first | rfl | trivial) | fail) (by first | (and_intros <;> first | rfl | trivial) | fail) rfl rfl rfl (by (try dsimp only); first | ((have ht := tdiv_128 (n := n) ‹_›; have hb := bnd9_next hT.2.2.1 ‹_›; exact ⟨ht.1, numB_go hT.2.1 ‹_›, by rw [laT]; exact hb.1, by rw [laT]; show out.length + 1 <= _; omega⟩)) | fail) (show _ < _ by (try dsimp only); (have ht := tdiv_128 (n := n) ‹_›; omega)))
 | refine sdA (by first | exact nbT rfl | exact rfl | omega | fail) ?_
 | refine ⟨out ++ [byt n], bapp (congrArg (fun x => [[AV.int .u8 x]]) b3), ?_⟩
 | fail
  all_goals
    conv => whnf
    refine OutA_plain rfl rfl ?_
    exact congrArg AV.str (numB_fin hT.2.1 ‹_›)
theorem c_impl_fail (b : List UInt8) (a : Nat) (f : Bool) : BC Tryz.prog 152 145 [.str b, .int .i64 (a : Int), .bool f] [] (.tup []) [] [.str b, .int .i64 (a : Int), .bool true] := by
  refine bc_of Tryz.func152 rfl (by kernel_rfl) 3 5 [] rfl rfl rfl (by decide) rfl ?_
  repeat' (conv => whnf); first
 | refine sdA (by first | (and_intros <;> first | rfl | omega | exact nbT rfl) | fail) ?_
 | fail
  all_goals
    conv => whnf
    exact OutB_plain rfl rfl rfl rfl rfl rfl rfl
theorem takeF_no {b : List UInt8} {a : Nat} {f : Bool} {n : Int} (h : f = true \/ n > (b.length : Int) - a) : takeF b a f n = ([], a, true) := by
  cases f with
  | true => rfl
  | false => unfold takeF; rw [if_pos (h.resolve_left (by simp))]
theorem takeF_yes {b : List UInt8} {a : Nat} {f : Bool} {n : Int} (h : f = false) (h2 : ¬ n > (b.length : Int) - a) : takeF b a f n = ((b.take (a + n.toNat)).drop a, a + n.toNat, false) := by
  subst h
  unfold takeF
  rw [if_neg h2]
theorem c_impl_take (b : List UInt8) (a : Nat) (f : Bool) (n : Int) (ha : a <= b.length) (hb : b.length <= 1073741824) (h0 : 0 <= n) (h1 : n <= 1000000000) : BC Tryz.prog 151 145 [.str b, .int .i64 (a : Int), .bool f] [.int .i64 n] (.str (takeF b a f n).1) [] [.str b, .int .i64 ((takeF b a f n).2.1 : Int), .bool (takeF b a f n).2.2] := by
  have hw1 := i64_wrap (e := (b.length : Int) - a) (by omega) (by omega)
  have hw2 := i64_wrap (e := (a : Int) + n) (by omega) (by omega)
  have hw3 : IntKind.i64.wrap (IntKind.i64.wrap ((a : Int) + n) - n) = a := by rw [hw2, i64_wrap (by omega) (by omega)]; omega
  cases f with
  | true =>
    refine bc_of Tryz.func151 rfl (by kernel_rfl) 3 48 [.tmp 4] rfl rfl rfl (by decide) rfl ?_
    repeat' (conv => whnf); first
 | refine nameB_true ?_
 | refine splitB_true ?_
 | refine draw_text (by kernel_rfl) (by kernel_rfl) (by kernel_rfl) ?_
 | refine CallB (c_impl_fail ..) rfl rfl rfl rfl rfl rfl ?_
 | fail
    all_goals
      conv => whnf
      exact OutB_plain rfl rfl rfl rfl rfl rfl rfl
  | false =>
    refine bc_of Tryz.func151 rfl (by kernel_rfl) 3 48 [.tmp 4] rfl rfl rfl (by decide) rfl ?_
    repeat' (conv => whnf); first
 | refine nameB_false ?_
 | (refine nameB_dec (fun h => ?_) (fun h => ?_) <;> try simp only [lensB] at h)
 | refine splitB_true ?_
 | refine splitB_false ?_
 | refine draw_text (by kernel_rfl) (by kernel_rfl) (by kernel_rfl) ?_
 | refine CallB (c_impl_fail ..) rfl rfl rfl rfl rfl rfl ?_
 | refine sdA (by first | exact nbT rfl | exact rfl | omega | fail) ?_
 | refine sdA (by first | (and_intros <;> first | rfl | omega | exact nbT rfl) | fail) ?_
 | fail
    all_goals
      conv => whnf
      first
      | (rw [takeF_no (b := b) (a := a) (f := false) (n := n) (by right; omega)]; exact OutB_plain rfl rfl rfl rfl rfl rfl rfl)
      | (rw [takeF_yes (b := b) (a := a) (f := false) (n := n) rfl (by omega)]
         refine OutB_plain rfl rfl rfl rfl rfl ?_ ?_
         · refine congrArg AV.str ?_
           rw [hw3, hw2, show ((a : Int) + n).toNat = a + n.toNat by omega, Int.toNat_natCast]
         · refine congrArg (fun z : Int => [AV.str b, AV.int .i64 z, AV.bool false]) ?_
           rw [hw2]; simp only; omega)
theorem numL_none {b : List UInt8} {s f : Nat} {n q : Int} {a : Nat} (h : b[a]? = none) : numL b s (f + 1) n q a = (0, a, true) := by unfold numL; rw [h]
theorem numL_big {b : List UInt8} {s f : Nat} {n q : Int} {a : Nat} {x : UInt8} (h : b[a]? = some x) (h2 : n + ((x.toNat % 128 : Nat) : Int) * q > 1000000000 \/ a + 1 - s > 5) : numL b s (f + 1) n q a = (0, a + 1, true) := by
  unfold numL; rw [h]; simp only; rw [if_pos h2]
theorem numL_fin {b : List UInt8} {s f : Nat} {n q : Int} {a : Nat} {x : UInt8} (h : b[a]? = some x) (h2 : ¬ (n + ((x.toNat % 128 : Nat) : Int) * q > 1000000000 \/ a + 1 - s > 5)) (h3 : x.toNat < 128) : numL b s (f + 1) n q a = finI b s (n + ((x.toNat % 128 : Nat) : Int) * q) (a + 1) := by
  unfold numL; rw [h]; simp only; rw [if_neg h2, if_pos h3]
theorem numL_go {b : List UInt8} {s f : Nat} {n q : Int} {a : Nat} {x : UInt8} (h : b[a]? = some x) (h2 : ¬ (n + ((x.toNat % 128 : Nat) : Int) * q > 1000000000 \/ a + 1 - s > 5)) (h3 : ¬ x.toNat < 128) : numL b s (f + 1) n q a = numL b s f (n + ((x.toNat % 128 : Nat) : Int) * q) (q * 128) (a + 1) := by
  conv => lhs; unfold numL
  rw [h]; simp only; rw [if_neg h2, if_neg h3]
theorem takeF_one_no {b : List UInt8} {a : Nat} (h : b[a]? = none) : takeF b a false 1 = ([], a, true) := takeF_no (.inr (by have := List.getElem?_eq_none_iff.1 h; omega))
theorem takeF_one {b : List UInt8} {a : Nat} {x : UInt8} (h : b[a]? = some x) : takeF b a false 1 = ([x], a + 1, false) := by
  have hlt := (List.getElem?_eq_some_iff.1 h).1
  rw [takeF_yes rfl (by omega)]
  have : (b.take (a + (1 : Int).toNat)).drop a = [x] := by
    rw [show a + (1 : Int).toNat = a + 1 from rfl, List.take_add_one, h, List.drop_append_of_le_length (by rw [List.length_take]; omega), List.drop_eq_nil_of_le (by rw [List.length_take]; omega)]
    rfl
  rw [this]
  rfl
theorem c_impl_take1_no (b : List UInt8) (a : Nat) (ha : a <= b.length) (hb : b.length <= 1073741824) (h : b[a]? = none) : BC Tryz.prog 151 145 [.str b, .int .i64 (a : Int), .bool false] [.int .i64 1] (.str []) [] [.str b, .int .i64 (a : Int), .bool true] := by
  have := c_impl_take b a false 1 ha hb (by omega) (by omega)
  rw [takeF_one_no h] at this
  exact this
theorem c_impl_take1 (b : List UInt8) (a : Nat) (x : UInt8) (hb : b.length <= 1073741824) (h : b[a]? = some x) : BC Tryz.prog 151 145 [.str b, .int .i64 (a : Int), .bool false] [.int .i64 1] (.str [x]) [] [.str b, .int .i64 ((a + 1 : Nat) : Int), .bool false] := by
  have hlt := (List.getElem?_eq_some_iff.1 h).1
  have := c_impl_take b a false 1 (by omega) hb (by omega) (by omega)
  rw [takeF_one h] at this
  exact this
theorem c_impl_take_bad (b : List UInt8) (a : Nat) (n : Int) (ha : a <= b.length) (hb : b.length <= 1073741824) (h0 : 0 <= n) (h1 : n <= 1000000000) : BC Tryz.prog 151 145 [.str b, .int .i64 (a : Int), .bool true] [.int .i64 n] (.str []) [] [.str b, .int .i64 (a : Int), .bool true] := c_impl_take b a true n ha hb h0 h1
end Go.Proofs.YtjjjalcmcifncaaGreat
