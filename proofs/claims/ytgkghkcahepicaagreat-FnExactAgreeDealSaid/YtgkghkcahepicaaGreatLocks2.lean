/-
  What the functions that wait for locks give.
  No condition.
-/
import Derived.Test.YtgkghkcahepicaaGreatLocks
import Derived.Test.YtgkghkcahepicaaGreatLays
import Derived.Test.YtgkghkcahepicaaGreatSorts
namespace Go.Proofs.YtgkghkcahepicaaGreat
open Go.Ab
set_option linter.unusedSimpArgs false
set_option maxRecDepth 20000
set_option maxHeartbeats 4000000
set_option linter.unusedVariables false

def waitL (l : List LockT) (x : LockT) : List Int := (l.filter (confl x)).map LockT.Txn
theorem put_cellsI {l : List Int} {n : Int} {k : Nat} {L : List (List AV)} (hp : putI l n = l.take k ++ [n] ++ l.drop k) (hL : L = [intC n]) : ((l.take k).map intC ++ L) ++ (l.drop k).map intC = (putI l n).map intC := by
  rw [hp, hL]; simp
theorem c_spec_l1Put (l : List Int) (n : Int) (hl : l.length ≤ 1048576) : PC Tryz.prog true 180 [.sl (l.map intC), .int .i64 n] (.sl ((putI l n).map intC)) [] := by
  refine pc_at Tryz.func180 rfl (by kernel_rfl) 48 [.tmp 4] rfl rfl ?_
  repeat' (conv => whnf); first
    | refine ix_at (m := k) rfl hy ?_
    | refine ix_as (m := k) rfl (by omega) (fun y hy => ?_)
    | refine sl_pre (m := k) (by omega) (fun _ => rfl) ?_
    | refine sl_suf (m := k) (by omega) (fun _ => rfl) ?_
    | refine side_and (side_of (by first | (and_intros <;> first | exact Nat.le_of_ble_eq_true rfl | rfl | (intro e; exact absurd (AV.own.inj e) (by decide)) | (intro e; exact AV.noConfusion e)) | fail)) ?_
    | refine side_and (side_of (app_bound2 (L := []) (M := (l.take k).map intC) (by (try simp only [List.length_map, List.length_append, List.length_take, List.length_set, List.length_drop, List.length_cons, List.length_nil]); omega) (Nat.le_of_ble_eq_true rfl))) ?_
    | refine side_and (side_of (one_lenC rfl rfl)) ?_
    | refine side_and (side_of (by first | (and_intros <;> first | exact Nat.le_of_ble_eq_true rfl | rfl | (intro e; exact absurd (AV.own.inj e) (by decide)) | (intro e; exact AV.noConfusion e)) | fail)) ?_
    | refine side_and (side_of (app_boundC (L := (l.take k).map intC) rfl (by (try simp only [List.length_map, List.length_append, List.length_take, List.length_set, List.length_drop]); omega) (Nat.le_of_ble_eq_true rfl))) ?_
    | refine side_and (side_of (app_bound2 (L := (l.take k).map intC ++ [intC n]) (M := (l.drop k).map intC) (by (try simp only [List.length_map, List.length_append, List.length_take, List.length_set, List.length_drop, List.length_cons, List.length_nil]); omega) (Nat.le_of_ble_eq_true rfl))) ?_
    | refine nameB_true ?_
    | refine nameB_false ?_
    | refine nameB_yes (by assumption) ?_
    | refine nameB_no (by assumption) ?_
    | refine nameB_dyes (by assumption) ?_
    | refine nameB_dno (by assumption) ?_
    | (refine nameB_dec (fun h => ?_) (fun h => ?_) <;> try simp only [lensB, midL_len, mkL_length, Int.toNat_natCast, fact_byte] at h)
    | (refine nameB_cases (fun h => ?_) (fun h => ?_) <;> try simp only [bne_iff_ne, ne_eq, bne_eq_false_iff_eq, beq_iff_eq, beq_eq_false_iff_ne, Bool.not_eq_true', Bool.not_eq_false', Bool.or_eq_true, Bool.or_eq_false_iff, lensB, midL_len, mkL_length, Int.toNat_natCast, fact_byte] at h)
    | refine splitB_true ?_
    | refine splitB_false ?_
    | (refine splitB_intro (fun h => ?_) (fun h => ?_) <;> subst h)
    | refine draw_text (by kernel_rfl) (by kernel_rfl) (by kernel_rfl) ?_
    | refine both_intro ?_ ?_
    | refine eitherB_l ?_
    | exact True.intro
    | (show Go.Ab.Loop _ _ _; (refine Loop_at [0, 1] [] (Nat) (fun k => k + cntI n (l.drop k) = cntI n l ∧ k ≤ l.length) (fun k => [(5, .int .i64 (k : Nat))]) (fun k => []) (fun k => l.length - k) 0 ⟨by first | (simp_all <;> fail) | rfl | fail, trivial⟩ trivial (by (try dsimp only); first | (exact ⟨by simp, Nat.zero_le _⟩) | fail) ?_; (conv => whnf); refine side_and (side_of (by first | exact fun k => rfl | exact fun k => by simp [headOk, closedE, closedO, closedL, AV.closed, hcap.closed, hasId, AObj.box, BK.ofB])) ?_; rintro k hT; try dsimp only at hT))
    | (show Go.Ab.Again _ _ _ _ _ _ _ _ _ _ _; refine Again_of (k + 1) ⟨by first | rfl | exact i64_next (by omega) | (simp_all <;> fail) | fail, trivial⟩ trivial (by first | (and_intros <;> first | rfl | trivial) | fail) (by first | (and_intros <;> first | rfl | trivial) | fail) rfl rfl rfl (by (try dsimp only); first | (exact ⟨cnt_go hT.1 hy (by omega), by omega⟩) | fail) (show _ < _ by (try dsimp only); omega))
    | refine ix_map_at hx ?_
    | refine ix_map_at hy ?_
    | refine sl_pre (by omega) (fun _ => rfl) ?_
    | refine sl_suf (by omega) (fun _ => rfl) ?_
    | (refine ix_map2 hx (by omega) (by (try simp only [List.length_take]); omega) (fun y hy => ?_); try simp only [Int.toNat_natCast] at hy)
    | (refine ix_map (by omega) (by (try simp only [List.length_take]); omega) (fun x hx => ?_); try simp only [Int.toNat_natCast] at hx)
    | refine side_and (side_of (by first | (and_intros <;> first | exact Nat.le_of_ble_eq_true rfl | rfl | omega | (simp only [lensB, lensC, List.length_replicate, midL_len, mkL_length]; omega) | exact bytes_ok (Nat.le_of_ble_eq_true rfl) (by omega) (by simp only [lensB, lensC, List.length_replicate, midL_len, mkL_length]; omega) | exact bytes_okN (Nat.le_of_ble_eq_true rfl) (by simp only [lensB, lensC, List.length_replicate, midL_len, mkL_length]; omega)) | fail)) ?_
    | refine nilB_intro (fun h => ?_) ?_
    | refine side_and (side_of (show Go.Ab.structOk _ _ = true by kernel_rfl)) ?_
    | refine side_and (side_of (map_len (fun _ => rfl))) ?_
    | refine side_and (side_of (map_one (fun _ => rfl) _)) ?_
    | refine side_and ?_ ?_
    | refine LoadK_of rfl rfl ?_
    | refine LoadD_cel rfl rfl rfl rfl ?_
    | refine LoadD_of rfl ?_
    | refine StoreD_of rfl rfl rfl ?_
    | refine AppD_of rfl (by and_intros <;> first | rfl | decide) (by simp only [lensC]; first | (refine ⟨by omega, ?_⟩; refine Nat.le_trans (Nat.mul_le_mul_left _ (show _ ≤ 512 by decide)) ?_; omega) | fail) ?_
    | refine AppN_of rfl rfl (by and_intros <;> rfl) (by simp only [lensC]; first | (refine ⟨by omega, ?_⟩; refine Nat.le_trans (Nat.mul_le_mul_left _ (show _ ≤ 512 by decide)) ?_; omega) | fail) ?_
    | (show False; omega)
  all_goals
    conv => whnf
    first
    | (refine OutA_plain rfl rfl ?_; exact congrArg (fun l : List Int => AV.sl (l.map intC)) (putI_same (cnt_stop hT.1 hy (by omega)) hy (by assumption)).symm)
    | (refine OutA_frz [24640] ?_; (conv => whnf); refine OutA_plain rfl rfl ?_; exact congrArg AV.sl (put_cellsI (putI_new (by first | exact (cnt_end hT.1 (by assumption)) | exact (cnt_stop hT.1 hy (by omega))) (by first | exact .inl (by assumption) | exact .inr ⟨_, hy, by assumption⟩)) rfl))
def waitS (l : List LockT) (x : LockT) : List Int := (waitL l x).foldl putI []
def okW (l : List LockT) (x : LockT) : Bool := okLocks l && okLock x
def resW (l : List LockT) (x : LockT) : List Int := match okW l x with | true => waitS l x | false => []
end Go.Proofs.YtgkghkcahepicaaGreat
