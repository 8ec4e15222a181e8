/- Part 7 of one proof: lemmas and contracts, laid one behind the other. No condition. -/
import Derived.Test.YtjjjalcmcifncaaGreatF6
import Derived.Test.YtjjjalcmcifncaaGreatF1
import Derived.Test.YtjjjalcmcifncaaGreatM5
import Derived.Test.YtjjjalcmcifncaaGreatF2
import Derived.Test.YtjjjalcmcifncaaGreatF4
namespace Go.Proofs.YtjjjalcmcifncaaGreat
open Go.Ab
set_option linter.unusedSimpArgs false
set_option maxRecDepth 20000
set_option maxHeartbeats 4000000
set_option linter.unusedVariables false
def sureL (x : ReplicaT) : List EntryT := x.Log.take x.Sure.toNat
theorem c_impl_sure (x : ReplicaT) (h0 : 0 <= x.Sure) (h1 : x.Sure <= (x.Log.length : Int)) (hl : x.Log.length <= 1048576) : PC Tryz.prog true 35 [.agg x.cells] (.sl ((sureL x).map EntryT.cells)) [] := by
  refine pc_at Tryz.func35 rfl (by kernel_rfl) 8 [.tmp 2] rfl rfl ?_
  repeat' (conv => whnf); first
 | refine side_and (side_of (by first | exact Nat.le_of_ble_eq_true rfl | exact rfl | omega | fail)) ?_
 | refine side_and (side_of (by first | (and_intros <;> first | exact Nat.le_of_ble_eq_true rfl | rfl | omega | (simp only [lensB, lensC]; omega) | exact bytes_ok (Nat.le_of_ble_eq_true rfl) (by omega) (by simp only [lensB, lensC]; omega) | exact bytes_okN (Nat.le_of_ble_eq_true rfl) (by simp only [lensB, lensC]; omega)) | fail)) ?_
 | refine side_and (side_of (map_len (fun _ => rfl))) ?_
 | fail
  all_goals
    conv => whnf
    refine OutA_plain rfl rfl ?_
    exact congrArg AV.sl (by unfold sureL; rw [List.map_take]; rfl)
theorem sureL_len {x : ReplicaT} (hl : x.Log.length <= 1048576) : (sureL x).length <= 1048576 := by unfold sureL; rw [List.length_take]; omega
theorem sureL_ok {x : ReplicaT} (h : okL EntryT.ok x.Log) : okL EntryT.ok (sureL x) := okL_takeE h
def pairS (x y : ReplicaT) : Bool := preE (sureL x) (sureL y) || preE (sureL y) (sureL x)
def ledS (g : GroupT) (x : ReplicaT) : Bool := !decide (0 <= g.Lead) || preE (logOf g g.Lead) (sureL x)
def safeB (g : GroupT) : Bool := okGroup g && g.Reps.all fun x => g.Reps.all (pairS x) && ledS g x
theorem all_goR {p : ReplicaT -> Bool} {l : List ReplicaT} {k : Nat} {x : ReplicaT} (h : (l.take k).all p = true) (hx : l[k]? = some x) (hp : p x = true) : (l.take (k + 1)).all p = true := by
  rw [take_get hx, List.all_append, h]
  simp [hp]
theorem all_hitR {p : ReplicaT -> Bool} {l : List ReplicaT} {k : Nat} {x : ReplicaT} (hx : l[k]? = some x) (hp : p x = false) : l.all p = false := by
  rw [List.all_eq_false]
  exact ⟨x, List.mem_of_getElem? hx, by simp [hp]⟩
theorem all_endR {p : ReplicaT -> Bool} {l : List ReplicaT} {k : Nat} (h : (l.take k).all p = true) (hk : ¬ (k : Int) < l.length) : l.all p = true := by rwa [List.take_of_length_le (by omega)] at h
theorem rep_sure {g : GroupT} (hg : okGroup g = true) {n : Nat} {x : ReplicaT} (hx : g.Reps[n]? = some x) : 0 <= x.Sure /\ x.Sure <= (x.Log.length : Int) /\ x.Log.length <= 60 := by
  have := okRep_iff.1 ((okG_of hg).rep x (List.mem_of_getElem? hx))
  exact ⟨this.2.1, this.2.2, this.1.len⟩
theorem c_impl_IsSafe (g : GroupT) (hok : g.ok) (hw : GB g) : PC Tryz.prog false 13 [.agg g.cells] (.bool (safeB g)) [] := by
  have hl := reps_len hw
  refine pc_at Tryz.func13 rfl (by kernel_rfl) 56 [.tmp 2] rfl rfl ?_
  repeat' (conv => whnf); first
 | (refine ix_as (f := ReplicaT.cells) (m := i) rfl (by omega) (fun x hx => ?_); have hxs := rep_sure (by assumption) hx; have hxo := hok.1.2 x (List.mem_of_getElem? hx))
 | (refine ix_as (f := ReplicaT.cells) (m := k) rfl (by omega) (fun y hy => ?_); have hys := rep_sure (by assumption) hy; have hyo := hok.1.2 y (List.mem_of_getElem? hy))
 | (refine ix_own (f := ReplicaT.cells) (n := g.Lead.toNat) (okLead_lt (g := g) (by assumption) (by omega)).2 (fun z hz => ?_); have hzs := rep_sure (by assumption) hz; have hzo := hok.1.2 z (List.mem_of_getElem? hz); have hzl := logOf_of hz)
 | (refine nameB_cases (b := okGroup g) (fun h => ?_) (fun h => ?_))
 | (refine nameB_cases (b := preE (sureL x) (sureL y)) (fun h => ?_) (fun h => ?_))
 | (refine nameB_cases (b := preE z.Log (sureL x)) (fun h => ?_) (fun h => ?_))
 | (refine nameB_cases (b := preE (sureL y) (sureL x)) (fun h => ?_) (fun h => ?_))
 | refine nameB_true ?_
 | refine nameB_false ?_
 | (refine nameB_dec (fun h => ?_) (fun h => ?_) <;> try simp only [lensB] at h)
 | refine splitB_true ?_
 | refine splitB_false ?_
 | refine draw_text (by kernel_rfl) (by kernel_rfl) (by kernel_rfl) ?_
 | (refine Loop_at [1, 11, 12] [0] (Nat) (fun i => (g.Reps.take i).all (fun x => g.Reps.all (pairS x) && ledS g x) = true /\ i <= g.Reps.length) (fun i => [(13, .int .i64 (i : Nat))]) (fun i => []) (fun i => g.Reps.length - i) 0 ⟨by first | (simp_all <;> fail) | rfl | fail, trivial⟩ trivial (by (try dsimp only); first | (exact ⟨rfl, Nat.zero_le _⟩) | fail) ?_; (conv => whnf); refine side_and (side_of (by first | exact fun i => rfl | exact fun i => by simp [headOk, closedE, closedO, closedL, AV.closed, hcap.closed, hasId, AObj.box, BK.ofB])) ?_; rintro i hI; try dsimp only at hI)
 | (refine Loop_at [1, 4, 11, 12, 13, 18, 19] [0, 20512] (Nat) (fun k => (g.Reps.take k).all (pairS x) = true /\ k <= g.Reps.length) (fun k => [(20, .int .i64 (k : Nat))]) (fun k => []) (fun k => g.Reps.length - k) 0 ⟨by first | (simp_all <;> fail) | rfl | fail, trivial⟩ trivial (by (try dsimp only); first | (exact ⟨rfl, Nat.zero_le _⟩) | fail) ?_; (conv => whnf); refine side_and (side_of (by first | exact fun k => rfl | exact fun k => by simp [headOk, closedE, closedO, closedL, AV.closed, hcap.closed, hasId, AObj.box, BK.ofB])) ?_; rintro k hT; try dsimp only at hT)
 | refine Again_of (i + 1) ⟨by first | rfl | exact i64_next (by omega) | (simp_all <;> fail) | fail, trivial⟩ trivial (by first | (and_intros <;> first | rfl | trivial) | fail) (by first | (and_intros <;> first | rfl | trivial) | fail) rfl rfl rfl (by (try dsimp only); first | (exact ⟨all_goR hI.1 hx (by rw [Bool.and_eq_true]; exact ⟨all_endR hT.1 (by assumption), by first | (unfold ledS; simp_all <;> fail) | fail⟩), by omega⟩) | fail) (show _ < _ by (try dsimp only); omega)
 | refine Again_of (k + 1) ⟨by first | rfl | exact i64_next (by omega) | (simp_all <;> fail) | fail, trivial⟩ trivial (by first | (and_intros <;> first | rfl | trivial) | fail) (by first | (and_intros <;> first | rfl | trivial) | fail) rfl rfl rfl (by (try dsimp only); first | (exact ⟨all_goR hT.1 hy (by first | (unfold pairS; simp_all <;> fail) | fail), by omega⟩) | fail) (show _ < _ by (try dsimp only); omega)
 | refine Call0 (c_impl_GoodGroup g hok hw) rfl rfl ?_
 | refine CallD0 (c_impl_hasPrefix z.Log (sureL x) hzo.2.1 (sureL_len (by omega))) rfl rfl rfl ?_
 | refine CallDT (c_impl_sure x hxs.1 hxs.2.1 (by omega)) rfl rfl rfl ⟨rfl, rfl⟩ ?_
 | refine CallDT (c_impl_sure y hys.1 hys.2.1 (by omega)) rfl rfl rfl ⟨rfl, rfl⟩ ?_
 | refine CallD0 (c_impl_hasPrefix (sureL x) (sureL y) (sureL_ok hxo.2.1) (sureL_len (by omega))) rfl rfl rfl ?_
 | refine CallD0 (c_impl_hasPrefix (sureL y) (sureL x) (sureL_ok hyo.2.1) (sureL_len (by omega))) rfl rfl rfl ?_
 | refine side_and (side_of (by first | exact ⟨Nat.le_of_ble_eq_true rfl, rfl⟩ | fail)) ?_
 | refine side_and (side_of (by first | exact Nat.le_of_ble_eq_true rfl | exact rfl | omega | fail)) ?_
 | refine side_and (side_of (by first | (and_intros <;> first | rfl | omega | exact Nat.le_of_ble_eq_true rfl) | fail)) ?_
 | refine LoadK_of rfl rfl ?_
 | fail
  all_goals
    conv => whnf
    refine OutA_plain rfl rfl ?_
    refine congrArg AV.bool ?_
    unfold safeB
    first
    | (rw [(by assumption : okGroup g = false)]; rfl)
    | (rw [(by assumption : okGroup g = true), all_endR hI.1 (by assumption)]; rfl)
    | (rw [all_hitR (p := fun x => g.Reps.all (pairS x) && ledS g x) hx (by show (g.Reps.all (pairS x) && ledS g x) = false; rw [all_hitR hy (by unfold pairS; rw [(by assumption : preE (sureL x) (sureL y) = false), (by assumption : preE (sureL y) (sureL x) = false)]; rfl)]; rfl)]; simp)
    | (rw [all_hitR (p := fun x => g.Reps.all (pairS x) && ledS g x) hx (by show (g.Reps.all (pairS x) && ledS g x) = false; rw [show ledS g x = false by (unfold ledS; rw [hzl, (by assumption : preE z.Log (sureL x) = false), decide_eq_true (show 0 <= g.Lead by omega)]; rfl)]; simp)]; simp)
    | trace_state
def newRep : ReplicaT := ⟨true, [], 0⟩
def repN (b : Bool) : List AV := [.bool b, .nil, .int .i64 0]
abbrev isMany (m : Int) : Bool := okMany m
theorem rep_copy {α : Type} {A B : α} {k n lo m t : Nat} {L : List α} (hL : L = List.replicate k A ++ List.replicate (n - k) B) (hk : k <= n) (hlo : lo = k) (ht : t = k) (hm : m = min k (n - k)) :
    splice L lo (((L.drop 0).take t).take m) = List.replicate (k + min k (n - k)) A ++ List.replicate (n - (k + min k (n - k))) B := by
  subst hlo ht hm hL
  have h1 : (List.replicate t A ++ List.replicate (n - t) B).take t = List.replicate t A := by
    rw [List.take_append, List.take_of_length_le (by simp), List.length_replicate, Nat.sub_self, List.take_zero, List.append_nil]
  unfold splice
  rw [List.drop_zero, h1, List.take_replicate, List.length_replicate, List.drop_append, List.drop_of_length_le (by simp), List.length_replicate, List.nil_append, List.drop_replicate, List.replicate_append_replicate]
  congr 2
  . omega
  . omega
theorem c_Mul64_3 : PC Tryz.prog false 109 [.int .u64 1, .int .u64 3] (.tup [.int .u64 0, .int .u64 3]) [] := by
  refine pc_at Tryz.func109 rfl (by kernel_rfl) 51 [.tmp 4, .tmp 5] rfl rfl ?_
  repeat' (conv => whnf); first
 | refine side_and (side_of (by first | exact Nat.le_of_ble_eq_true rfl | exact rfl | omega | fail)) ?_
 | fail
  all_goals
    conv => whnf
    exact OutA_plain rfl rfl (by rfl)
theorem c_Mul_3 : PC Tryz.prog false 73 [.int .u64 1, .int .u64 3] (.tup [.int .u64 0, .int .u64 3]) [] := by
  refine pc_at Tryz.func73 rfl (by kernel_rfl) 30 [.tmp 4, .tmp 5] rfl rfl ?_
  repeat' (conv => whnf); first
 | refine splitB_false ?_
 | refine Call0 (c_Mul64_3) rfl rfl ?_
 | fail
  all_goals
    conv => whnf
    exact OutA_plain rfl rfl (by rfl)
theorem c_Mul64_5 : PC Tryz.prog false 109 [.int .u64 1, .int .u64 5] (.tup [.int .u64 0, .int .u64 5]) [] := by
  refine pc_at Tryz.func109 rfl (by kernel_rfl) 51 [.tmp 4, .tmp 5] rfl rfl ?_
  repeat' (conv => whnf); first
 | refine side_and (side_of (by first | exact Nat.le_of_ble_eq_true rfl | exact rfl | omega | fail)) ?_
 | fail
  all_goals
    conv => whnf
    exact OutA_plain rfl rfl (by rfl)
theorem c_Mul_5 : PC Tryz.prog false 73 [.int .u64 1, .int .u64 5] (.tup [.int .u64 0, .int .u64 5]) [] := by
  refine pc_at Tryz.func73 rfl (by kernel_rfl) 30 [.tmp 4, .tmp 5] rfl rfl ?_
  repeat' (conv => whnf); first
 | refine splitB_false ?_
 | refine Call0 (c_Mul64_5) rfl rfl ?_
 | fail
  all_goals
    conv => whnf
    exact OutA_plain rfl rfl (by rfl)
theorem c_Repeat_3 : XC Tryz.prog 37 [⟨false, 60, 3, [repN true]⟩] [.own 0, .int .i64 3] (.own 0) [⟨false, 60, 3, List.replicate 3 (repN true)⟩] := by
  refine xc_at Tryz.func37 rfl (by kernel_rfl) 48 [.tmp 4] rfl rfl rfl ?_
  repeat' (conv => whnf); first
 | (show Go.Ab.drawA _ _ _ _ _; refine draw_exp (.take 0 (.take 1 (.take 2 (.take 4 (.take 5 (.fork 3 (.fork 6 (.fork 7 (.take 8 (.take 9 (.done))) (.stop)) (.stop)) (.fork 6 (.fork 3 (.fork 7 (.take 8 (.take 9 (.done))) (.stop)) (.stop)) (.stop)))))))) (by kernel_rfl) (by kernel_rfl) (by kernel_rfl) ?_)
 | simp only [List.length_append, List.length_replicate] at h
 | exact side_of ⟨by decide, by decide, by decide, by decide⟩
 | refine nameB_false ?_
 | (refine nameB_dec (fun h => ?_) (fun h => ?_) <;> try simp only [lensB] at h)
 | refine splitB_true ?_
 | refine splitB_false ?_
 | refine both_intro ?_ ?_
 | exact True.intro
 | ((refine Loop_at [7] [] (Nat) (fun k => 1 <= k /\ k <= 3) (fun k => [(8, .int .i64 (k : Nat))]) (fun k => [(24624, ⟨false, 60, 3, List.replicate k (repN true) ++ List.replicate (3 - k) (repN false)⟩)]) (fun k => 3 - k) 1 ⟨by first | first | rfl | exact congrArg (AV.int .i64) (by simp only [List.length_append, List.length_replicate, List.length_take, List.length_drop, Int.toNat_natCast, List.drop_zero]; rw [i64w (by omega) (by omega)]; omega) | rfl | fail, trivial⟩ ⟨by first | rfl | exact rfl | exact congrArg (fun e => some (AObj.mk _ _ _ e)) (rep_copy (n := 3) rfl (by omega) (by simp) (by simp) (by simp only [List.length_append, List.length_replicate, List.length_take, List.length_drop, Int.toNat_natCast, List.drop_zero]; omega)) | fail | fail, trivial⟩ (by (try dsimp only); first | (exact ⟨by omega, by omega⟩) | fail) ?_; (conv => whnf); refine side_and (side_of (by first | exact fun k => rfl | exact fun k => by simp [headOk, closedE, closedO, closedL, AV.closed, hcap.closed, hasId, AObj.box, BK.ofB])) ?_; rintro k hT; try dsimp only at hT))
 | (refine Again_of (k + min k (3 - k)) ⟨by first | rfl | exact i64_next (by omega) | first | rfl | exact congrArg (AV.int .i64) (by simp only [List.length_append, List.length_replicate, List.length_take, List.length_drop, Int.toNat_natCast, List.drop_zero]; rw [i64w (by omega) (by omega)]; omega) | fail, trivial⟩ ⟨by first | rfl | exact rfl | exact congrArg (fun e => some (AObj.mk _ _ _ e)) (rep_copy (n := 3) rfl (by omega) (by simp) (by simp) (by simp only [List.length_append, List.length_replicate, List.length_take, List.length_drop, Int.toNat_natCast, List.drop_zero]; omega)) | fail | fail, trivial⟩ (by first | (and_intros <;> first | rfl | trivial) | fail) (by first | (and_intros <;> first | rfl | trivial) | fail) rfl rfl rfl (by (try dsimp only); first | (exact ⟨by omega, by omega⟩) | fail) (show _ < _ by (try dsimp only); omega))
 | refine Call0 (c_Mul_3) rfl rfl ?_
 | (refine hook_sliceO rfl rfl rfl rfl rfl rfl (by first | (and_intros <;> first | omega | (simp only [lensB, lensC, splice_lenU, Int.toNat_natCast]; omega)) | fail) (fun cp hcp => ?_); try simp only [lensB, lensC, splice_lenU, Int.toNat_natCast] at hcp)
 | refine hook_copy rfl rfl rfl rfl rfl rfl rfl (by first | exact trivial | (show _ <= _; simp only [lensB, lensC, splice_lenU, Int.toNat_natCast]; omega) | (show _ <= _; omega) | fail) rfl (by first | (and_intros <;> first | omega | (simp only [lensB, lensC, splice_lenU, Int.toNat_natCast]; omega)) | fail) ?_
 | refine hook_copyO rfl rfl rfl rfl rfl rfl rfl (by first | exact trivial | (show _ <= _; simp only [lensB, lensC, splice_lenU, Int.toNat_natCast]; omega) | (show _ <= _; omega) | fail) rfl ?_
 | refine side_and (side_of (by first | (and_intros <;> first | rfl | omega | exact Nat.le_of_ble_eq_true rfl) | fail)) ?_
 | refine side_and ?_ ?_
 | fail
  all_goals
    conv => whnf
    exact OutA_ids rfl rfl rfl ⟨⟨_, _, _, rfl, congrArg (AObj.mk _ _ _) (by have e : k = 3 := (by first | omega | fail); subst e; rfl)⟩, trivial⟩ rfl (.inr (fun o ho => by simp at ho; subst ho; rfl))
theorem c_Repeat_5 : XC Tryz.prog 37 [⟨false, 60, 3, [repN true]⟩] [.own 0, .int .i64 5] (.own 0) [⟨false, 60, 3, List.replicate 5 (repN true)⟩] := by
  refine xc_at Tryz.func37 rfl (by kernel_rfl) 48 [.tmp 4] rfl rfl rfl ?_
  repeat' (conv => whnf); first
 | (show Go.Ab.drawA _ _ _ _ _; refine draw_exp (.take 0 (.take 1 (.take 2 (.take 4 (.take 5 (.fork 3 (.fork 6 (.fork 7 (.take 8 (.take 9 (.done))) (.stop)) (.stop)) (.fork 6 (.fork 3 (.fork 7 (.take 8 (.take 9 (.done))) (.stop)) (.stop)) (.stop)))))))) (by kernel_rfl) (by kernel_rfl) (by kernel_rfl) ?_)
 | simp only [List.length_append, List.length_replicate] at h
 | exact side_of ⟨by decide, by decide, by decide, by decide⟩
 | refine nameB_false ?_
 | (refine nameB_dec (fun h => ?_) (fun h => ?_) <;> try simp only [lensB] at h)
 | refine splitB_true ?_
 | refine splitB_false ?_
 | refine both_intro ?_ ?_
 | exact True.intro
 | ((refine Loop_at [7] [] (Nat) (fun k => 1 <= k /\ k <= 5) (fun k => [(8, .int .i64 (k : Nat))]) (fun k => [(24624, ⟨false, 60, 3, List.replicate k (repN true) ++ List.replicate (5 - k) (repN false)⟩)]) (fun k => 5 - k) 1 ⟨by first | first | rfl | exact congrArg (AV.int .i64) (by simp only [List.length_append, List.length_replicate, List.length_take, List.length_drop, Int.toNat_natCast, List.drop_zero]; rw [i64w (by omega) (by omega)]; omega) | rfl | fail, trivial⟩ ⟨by first | rfl | exact rfl | exact congrArg (fun e => some (AObj.mk _ _ _ e)) (rep_copy (n := 5) rfl (by omega) (by simp) (by simp) (by simp only [List.length_append, List.length_replicate, List.length_take, List.length_drop, Int.toNat_natCast, List.drop_zero]; omega)) | fail | fail, trivial⟩ (by (try dsimp only); first | (exact ⟨by omega, by omega⟩) | fail) ?_; (conv => whnf); refine side_and (side_of (by first | exact fun k => rfl | exact fun k => by simp [headOk, closedE, closedO, closedL, AV.closed, hcap.closed, hasId, AObj.box, BK.ofB])) ?_; rintro k hT; try dsimp only at hT))
 | (refine Again_of (k + min k (5 - k)) ⟨by first | rfl | exact i64_next (by omega) | first | rfl | exact congrArg (AV.int .i64) (by simp only [List.length_append, List.length_replicate, List.length_take, List.length_drop, Int.toNat_natCast, List.drop_zero]; rw [i64w (by omega) (by omega)]; omega) | fail, trivial⟩ ⟨by first | rfl | exact rfl | exact congrArg (fun e => some (AObj.mk _ _ _ e)) (rep_copy (n := 5) rfl (by omega) (by simp) (by simp) (by simp only [List.length_append, List.length_replicate, List.length_take, List.length_drop, Int.toNat_natCast, List.drop_zero]; omega)) | fail | fail, trivial⟩ (by first | (and_intros <;> first | rfl | trivial) | fail) (by first | (and_intros <;> first | rfl | trivial) | fail) rfl rfl rfl (by (try dsimp only); first | (exact ⟨by omega, by omega⟩) | fail) (show _ < _ by (try dsimp only); omega))
 | refine Call0 (c_Mul_5) rfl rfl ?_
 | (refine hook_sliceO rfl rfl rfl rfl rfl rfl (by first | (and_intros <;> first | omega | (simp only [lensB, lensC, splice_lenU, Int.toNat_natCast]; omega)) | fail) (fun cp hcp => ?_); try simp only [lensB, lensC, splice_lenU, Int.toNat_natCast] at hcp)
 | refine hook_copy rfl rfl rfl rfl rfl rfl rfl (by first | exact trivial | (show _ <= _; simp only [lensB, lensC, splice_lenU, Int.toNat_natCast]; omega) | (show _ <= _; omega) | fail) rfl (by first | (and_intros <;> first | omega | (simp only [lensB, lensC, splice_lenU, Int.toNat_natCast]; omega)) | fail) ?_
 | refine hook_copyO rfl rfl rfl rfl rfl rfl rfl (by first | exact trivial | (show _ <= _; simp only [lensB, lensC, splice_lenU, Int.toNat_natCast]; omega) | (show _ <= _; omega) | fail) rfl ?_
 | refine side_and (side_of (by first | (and_intros <;> first | rfl | omega | exact Nat.le_of_ble_eq_true rfl) | fail)) ?_
 | refine side_and ?_ ?_
 | fail
  all_goals
    conv => whnf
    exact OutA_ids rfl rfl rfl ⟨⟨_, _, _, rfl, congrArg (AObj.mk _ _ _) (by have e : k = 5 := (by first | omega | fail); subst e; rfl)⟩, trivial⟩ rfl (.inr (fun o ho => by simp at ho; subst ho; rfl))
theorem c_Repeat_Replica (n : Nat) (hn : n = 3 \/ n = 5) : XC Tryz.prog 37 [⟨false, 60, 3, [repN true]⟩] [.own 0, .int .i64 (n : Int)] (.own 0) [⟨false, 60, 3, List.replicate n (repN true)⟩] := by
  rcases hn with rfl | rfl
  . exact c_Repeat_3
  . exact c_Repeat_5
theorem flat_rep (n : Nat) : (List.replicate n (repN true)).flatten.all AV.flat = true := by
  induction n with
  | zero => rfl
  | succ n ih => rw [List.replicate_succ, List.flatten_cons, List.all_append, ih]; rfl
theorem isMany_yes {n : Nat} (hn : n = 3 \/ n = 5) : isMany (n : Int) = true := by rcases hn with rfl | rfl <;> rfl
theorem c_impl_NewGroup_yes (n : Nat) (hn : n = 3 \/ n = 5) : PC Tryz.prog false 14 [.int .i64 (n : Int)] (.tup [.agg [.own 0, .int .i64 0, .int .i64 (-1)], .bool true]) [⟨false, 60, 3, List.replicate n (repN true)⟩] := by
  refine pc_at Tryz.func14 rfl (by kernel_rfl) 13 [.cell 2 27, .tmp 3] rfl rfl ?_
  repeat' (conv => whnf); first
 | refine nameB_yes (b := isMany (n : Int)) (isMany_yes hn) ?_
 | refine nameB_false ?_
 | refine splitB_false ?_
 | refine Call0 (c_impl_isMany ..) rfl rfl ?_
 | refine CallX (c_Repeat_Replica n hn) [12304] rfl ⟨rfl, trivial⟩ rfl rfl rfl ?_
 | refine side_and (side_of (by first | exact ⟨Nat.le_of_ble_eq_true rfl, rfl⟩ | fail)) ?_
 | refine side_and (side_of (by first | (and_intros <;> first | rfl | omega | exact Nat.le_of_ble_eq_true rfl) | fail)) ?_
 | fail
  all_goals
    conv => whnf
    exact OutA_ids rfl rfl rfl ⟨⟨_, _, _, rfl, rfl⟩, trivial⟩ rfl (.inr (flat_one (flat_rep _)))
def newHouseN (n : Nat) : HouseT := ⟨⟨List.replicate n newRep, 0, -1⟩, List.replicate n ⟨[], []⟩⟩
theorem flat_repD (n : Nat) : ∀ e ∈ List.replicate n ([.str [], .str []] : List AV), flatFit DiskT.shp e = true := prom_rep rfl
theorem flat_repR (n : Nat) : ∀ e ∈ List.replicate n (repN true), flatFit ReplicaT.shp e = true := prom_rep rfl
theorem deN_map (n : Nat) : (List.replicate n (repN true)).map (List.map deNil) = (List.replicate n newRep).map ReplicaT.cells := by
  rw [List.map_replicate, List.map_replicate]
  rfl
theorem dsk_map (n : Nat) : List.replicate n ([.str [], .str []] : List AV) = (List.replicate n (⟨[], []⟩ : DiskT)).map DiskT.cells := by
  rw [List.map_replicate]
  rfl
theorem c_impl_NewHouse_yes (n : Nat) (hn : n = 3 \/ n = 5) : PC Tryz.prog false 7 [.int .i64 (n : Int)] (.tup [.agg [.own 0, .int .i64 0, .int .i64 (-1), .own 1], .bool true]) [⟨.deep ReplicaT.shp, 60, 3, (List.replicate n newRep).map ReplicaT.cells⟩, ⟨.deep DiskT.shp, 67, 2, (List.replicate n (⟨[], []⟩ : DiskT)).map DiskT.cells⟩] := by
  refine pc_at Tryz.func7 rfl (by kernel_rfl) 18 [.cell 2 30, .tmp 3] rfl rfl ?_
  repeat' (conv => whnf); first
 | exact side_of (by rcases hn with rfl | rfl <;> decide)
 | refine nameB_true ?_
 | refine nameB_false ?_
 | refine splitB_false ?_
 | refine draw_text (by kernel_rfl) (by kernel_rfl) (by kernel_rfl) ?_
 | refine CallF (c_impl_NewGroup_yes n hn) rfl rfl rfl (Nat.le_of_ble_eq_true rfl) ?_
 | refine side_and (side_of (by first | exact ⟨Nat.le_of_ble_eq_true rfl, rfl⟩ | fail)) ?_
 | refine side_and (side_of (by first | (and_intros <;> first | rfl | omega | exact Nat.le_of_ble_eq_true rfl) | fail)) ?_
 | refine side_and ?_ ?_
 | fail
  all_goals
    conv => whnf
    refine OutA_prom [(4112, ReplicaT.shp), (16416, DiskT.shp)] ⟨⟨_, _, _, rfl, flat_repR n⟩, ⟨_, _, _, rfl, flat_repD n⟩, trivial⟩ ?_
    conv => whnf
    refine OutA_deNil 4112 rfl rfl ?_
    conv => whnf
    exact OutA_deep rfl rfl rfl ⟨⟨congrArg (fun e => some (AObj.mk _ _ _ e)) (deN_map n), rfl⟩, ⟨congrArg (fun e => some (AObj.mk _ _ _ e)) (dsk_map n), rfl⟩, trivial⟩ rfl
theorem Fine.okHouse {h : HouseT} (f : Fine h) : Proofs.YtjjjalcmcifncaaGreat.okHouse h = true := okH_iff.2 f.oh
theorem Fine.safe {h : HouseT} (f : Fine h) : safeB h.Group = true := by
  unfold safeB
  rw [f.oh.g, Bool.true_and, List.all_eq_true]
  intro x hx
  obtain ⟨i, hi⟩ := List.getElem?_of_mem hx
  have lx := (f.log hi).2
  rw [Bool.and_eq_true, List.all_eq_true]
  refine ⟨fun y hy => ?_, ?_⟩
  . obtain ⟨k, hk⟩ := List.getElem?_of_mem hy
    have ly := (f.log hk).2
    unfold pairS
    rw [Bool.or_eq_true, preE_iff, preE_iff]
    unfold sureL
    by_cases hle : x.Sure <= y.Sure
    . obtain ⟨e, _, _⟩ := f.agree (m := x.Sure.toNat) hi hk (by omega) (by omega)
      refine .inr ?_
      rw [e]
      exact List.take_prefix_take_left (by omega)
    . obtain ⟨e, _, _⟩ := f.agree (m := y.Sure.toNat) hi hk (by omega) (by omega)
      refine .inl ?_
      rw [<- e]
      exact List.take_prefix_take_left (by omega)
  . unfold ledS
    by_cases h0 : 0 <= h.Group.Lead
    . obtain ⟨l, hl, _, _⟩ := lead_of (okG_iff.1 f.oh.g).lead h0
      rw [logOf_of hl, show preE l.Log (sureL x) = true from preE_iff.2 (f.led h0 hi hl)]
      simp
    . rw [decide_eq_false h0]; rfl
theorem onK_nil : onK ⟨[], []⟩ = [] := by
  have := frames_all (l := []) (by simp)
  unfold onK
  show (frames [] 0).1.map outE = []
  rw [show ([] : List UInt8) = (([] : List (List UInt8)).map frB).flatten from rfl, this]
  rfl
theorem Fine.new {n : Nat} (hn : n = 3 \/ n = 5) : Fine (newHouseN n) := by
  have hrep : ∀ (i : Nat) (x : ReplicaT), (List.replicate n newRep)[i]? = some x -> x = newRep := fun i x h => by
    have := List.mem_of_getElem? h
    exact List.eq_of_mem_replicate this
  have hdsk : ∀ (i : Nat) (d : DiskT), (List.replicate n (⟨[], []⟩ : DiskT))[i]? = some d -> d = ⟨[], []⟩ := fun i x h => List.eq_of_mem_replicate (List.mem_of_getElem? h)
  have hfr : frames [] 0 = ([], 0) := by
    have := frames_all (l := []) (by simp)
    exact this
  refine ⟨⟨okG_iff.2 ⟨?_, ⟨Int.le_refl _, by show (0 : Int) <= 200; decide⟩, rfl, fun x hx => ?_⟩, ?_, fun i x d hx hd => ?_⟩, fun h => ?_, ?_⟩
  . show okMany ((List.replicate n newRep).length : Int) = true
    rw [List.length_replicate]
    rcases hn with rfl | rfl <;> rfl
  . rw [List.eq_of_mem_replicate hx]; rfl
  . show (List.replicate n _).length = (List.replicate n _).length
    rw [List.length_replicate, List.length_replicate]
  . rw [hrep i x hx, hdsk i d hd]
    refine fit_iff.2 ⟨rfl, ?_, ?_, fun _ => ⟨onK_nil, ?_⟩, fun _ => .inl onK_nil⟩
    . show (frames [] 0).1.all okE = true
      rw [hfr]; rfl
    . exact List.nil_prefix
    . show (frames [] 0).2 = 0
      rw [hfr]
  . exact absurd (show (0 : Int) <= -1 from h) (by decide)
  . refine Go.Safe.Inv.start ?_ (fun i _ => ?_) (fun i _ => ?_) rfl
    . show 0 < (List.replicate n newRep).length
      rw [List.length_replicate]; omega
    . unfold sysD
      cases h : (newHouseN n).Disks[i]? with
      | none => rfl
      | some d => rw [hdsk i d h]; exact onK_nil
    . unfold sysS
      cases h : (newHouseN n).Group.Reps[i]? with
      | none => rfl
      | some x => rw [hrep i x h]; rfl
theorem okG_small {g : GroupT} (o : okGroup g = true) : g.ok /\ g.w <= 155010 /\ ∀ x ∈ g.Reps, x.w <= 31000 := by
  have og := okG_iff.1 o
  have h1 : ∀ x ∈ g.Reps, x.ok /\ x.w <= 31000 := fun x hx => by
    have q := okRep_iff.1 (og.rep x hx)
    obtain ⟨q1, q2⟩ := log_w (L := x.Log) (by have := q.1.len; omega) (fun e he => (q.1.ent e he).1)
    exact ⟨⟨trivial, q1, trivial⟩, q2⟩
  have hl := okG_len o
  have := wL_bound (w := ReplicaT.w) (B := 31000) (xs := g.Reps) (fun y hy => (h1 y hy).2) hl
  have e : g.w = wL ReplicaT.w g.Reps := rfl
  exact ⟨⟨⟨by omega, fun x hx => (h1 x hx).1⟩, trivial, trivial⟩, by omega, fun x hx => (h1 x hx).2⟩
theorem Fine.small {h : HouseT} (f : Fine h) : h.ok /\ h.w <= 500000 := by
  obtain ⟨g1, g2, g3⟩ := okG_small f.oh.g
  have hl := okG_len f.oh.g
  have hd : ∀ d ∈ h.Disks, d.ok /\ d.w <= 50000 := fun d hd => by
    obtain ⟨n, hn⟩ := List.getElem?_of_mem hd
    have hn2 := (List.getElem?_eq_some_iff.1 hn).1
    have ft := f.fit (List.getElem?_eq_getElem (show n < h.Group.Reps.length by rw [<- f.oh.len]; exact hn2)) hn
    obtain ⟨m1, m2, m3⟩ := mendB_of ft.mend
    have hw := okDsk_w m1
    have e : d.w = d.Kept.length + d.Loose.length := rfl
    exact ⟨⟨by show d.Kept.length <= _; omega, by show d.Loose.length <= _; omega⟩, by omega⟩
  have hdl : h.Disks.length <= 5 := by rw [f.oh.len]; exact hl
  have := wL_bound (w := DiskT.w) (B := 50000) (xs := h.Disks) (fun y hy => (hd y hy).2) hdl
  have e : h.w = h.Group.w + wL DiskT.w h.Disks := rfl
  exact ⟨⟨g1, ⟨by omega, fun x hx => (hd x hx).1⟩⟩, by omega⟩
theorem Fine.hb {h : HouseT} (f : Fine h) : HB h := hb_of (by have := f.small.2; omega)
def gaOf (a : HouseActT) : GroupActT := ⟨a.Kind, a.Rep, a.Rec⟩
def okStepH (h : HouseT) (a : HouseActT) : Bool := if a.Kind = 7 then okTearI h a.Rec a.Keep else okActI h (gaOf a)
def stepH (h : HouseT) (a : HouseActT) : HouseT := match okStepH h a with | true => (if a.Kind = 7 then tearI h a.Rec a.Keep a.Torn else actI h (gaOf a)) | false => h
theorem step7 {h : HouseT} {a : HouseActT} (k : a.Kind = 7) (o : okTearI h a.Rec a.Keep = true) : tearI h a.Rec a.Keep a.Torn = stepH h a := by
  unfold stepH okStepH
  rw [if_pos k, o, if_pos k]
theorem step7n {h : HouseT} {a : HouseActT} (k : a.Kind = 7) (o : okTearI h a.Rec a.Keep = false) : h = stepH h a := by
  unfold stepH okStepH
  rw [if_pos k, o]
theorem stepA {h : HouseT} {a : HouseActT} (k : ¬ a.Kind = 7) (o : okActI h (gaOf a) = true) : actI h (gaOf a) = stepH h a := by
  unfold stepH okStepH
  rw [if_neg k, o, if_neg k]
theorem stepAn {h : HouseT} {a : HouseActT} (k : ¬ a.Kind = 7) (o : okActI h (gaOf a) = false) : h = stepH h a := by
  unfold stepH okStepH
  rw [if_neg k, o]
theorem Fine.step {h : HouseT} {a : HouseActT} (f : Fine h) : Fine (stepH h a) := by
  by_cases k : a.Kind = 7
  . cases o : okTearI h a.Rec a.Keep with
    | true => rw [<- step7 k o]; exact f.tear o
    | false => rw [<- step7n k o]; exact f
  . cases o : okActI h (gaOf a) with
    | true => rw [<- stepA k o]; exact f.act o
    | false => rw [<- stepAn k o]; exact f
def playH (h : HouseT) (acts : List HouseActT) : HouseT := acts.foldl stepH h
theorem playH_next {h : HouseT} {acts : List HouseActT} {k : Nat} {y : HouseActT} (hy : acts[k]? = some y) : playH h (acts.take (k + 1)) = stepH (playH h (acts.take k)) y := by
  unfold playH
  rw [List.take_add_one, hy, Option.toList_some, List.foldl_append, List.foldl_cons, List.foldl_nil]
theorem Fine.play {h : HouseT} : ∀ {acts : List HouseActT}, Fine h -> Fine (playH h acts)
  | [], f => f
  | a :: acts, f => Fine.play (h := stepH h a) (acts := acts) f.step
section
variable {h : HouseT} {acts : List HouseActT} {k : Nat} {y : HouseActT}
theorem playH_7 (hy : acts[k]? = some y) (e : y.Kind = 7) (o : okTearI (playH h (acts.take k)) y.Rec y.Keep = true) : tearI (playH h (acts.take k)) y.Rec y.Keep y.Torn = playH h (acts.take (k + 1)) := (step7 e o).trans (playH_next hy).symm
theorem playH_7n (hy : acts[k]? = some y) (e : y.Kind = 7) (o : okTearI (playH h (acts.take k)) y.Rec y.Keep = false) : playH h (acts.take k) = playH h (acts.take (k + 1)) := (step7n e o).trans (playH_next hy).symm
theorem playH_A (hy : acts[k]? = some y) (e : ¬ y.Kind = 7) (o : okActI (playH h (acts.take k)) (gaOf y) = true) : actI (playH h (acts.take k)) (gaOf y) = playH h (acts.take (k + 1)) := (stepA e o).trans (playH_next hy).symm
theorem playH_An (hy : acts[k]? = some y) (e : ¬ y.Kind = 7) (o : okActI (playH h (acts.take k)) (gaOf y) = false) : playH h (acts.take k) = playH h (acts.take (k + 1)) := (stepAn e o).trans (playH_next hy).symm
end
theorem c_impl_PlayHouseT (H : HouseT) (acts : List HouseActT) (f : Fine H) (ha : okL HouseActT.ok acts) (hw : wL HouseActT.w acts <= 1048576) (hn : acts.length <= 120) : PC Tryz.prog false 9 [.agg H.cells, .sl (acts.map HouseActT.cells)] (.tup [.agg [.own 0, .int .i64 (playH H (acts.take acts.length)).Group.Term, .int .i64 (playH H (acts.take acts.length)).Group.Lead, .own 1], .bool true]) [⟨.deep ReplicaT.shp, 60, 3, (playH H (acts.take acts.length)).Group.Reps.map ReplicaT.cells⟩, ⟨.deep DiskT.shp, 67, 2, (playH H (acts.take acts.length)).Disks.map DiskT.cells⟩] := by
  have hv : ∀ k, Fine (playH H (acts.take k)) := fun k => f.play
  have hy' : ∀ {k : Nat} {y : HouseActT}, acts[k]? = some y -> y.ok /\ y.w <= 1048576 := fun h => ⟨ha.2 _ (List.mem_of_getElem? h), by have := (wL_mem (w := HouseActT.w) (List.mem_of_getElem? h)).2; omega⟩
  have hdl := f.hb.dl
  have hg : okHouse H = true := f.okHouse
  refine pc_at Tryz.func9 rfl (by kernel_rfl) 64 [.cell 4 30, .tmp 5] rfl rfl ?_
  repeat' (conv => whnf); first
 | refine nameB_yes (b := okHouse H) hg ?_
 | (refine ix_as (f := HouseActT.cells) (m := k) rfl (by omega) (fun y hy => ?_))
 | (refine nameB_self (b := y.Torn) ?_)
 | (refine nameB_cases (b := okTearI (playH H (acts.take k)) y.Rec y.Keep) (fun h => ?_) (fun h => ?_))
 | (refine nameB_cases (b := okActI (playH H (acts.take k)) (gaOf y)) (fun h => ?_) (fun h => ?_))
 | refine nameB_false ?_
 | (refine nameB_dec (fun h => ?_) (fun h => ?_) <;> try simp only [lensB] at h)
 | refine splitB_true ?_
 | refine splitB_false ?_
 | refine draw_text (by kernel_rfl) (by kernel_rfl) (by kernel_rfl) ?_
 | ((refine Loop_prom [(12368, DiskT.shp)] ⟨⟨_, _, _, rfl, by first | exact prom_nil | exact prom_rep rfl | exact prom_map (fun _ => rfl) | exact prom_one rfl⟩, trivial⟩ ?_; refine Loop_at [4, 6, 27, 28] [0, 16] (Nat) (fun k => k <= acts.length) (fun k => [(29, .int .i64 (k : Nat))]) (fun k => [(12400, ⟨true, 30, 4, [[.own 12320, .int .i64 (playH H (acts.take k)).Group.Term, .int .i64 (playH H (acts.take k)).Group.Lead, .own 12368]]⟩), (12320, ⟨.deep ReplicaT.shp, 60, 3, (playH H (acts.take k)).Group.Reps.map ReplicaT.cells⟩), (12368, ⟨.deep DiskT.shp, 67, 2, (playH H (acts.take k)).Disks.map DiskT.cells⟩)]) (fun k => acts.length - k) 0 ⟨by first | (simp_all <;> fail) | rfl | fail, trivial⟩ ⟨by first | rfl | first | rfl | (have e := (by first | exact playH_7 hy (by assumption) (by assumption) | exact playH_A hy (by assumption) (by assumption) : (_ : HouseT) = playH H (acts.take (k + 1))); first | exact congrArg (fun v : HouseT => some (AObj.mk (.box) 30 4 [[.own 12320, .int .i64 v.Group.Term, .int .i64 v.Group.Lead, .own 12368]])) e | exact congrArg (fun v : HouseT => some (AObj.mk (.deep ReplicaT.shp) 60 3 (v.Group.Reps.map ReplicaT.cells))) e | exact congrArg (fun v : HouseT => some (AObj.mk (.deep DiskT.shp) 67 2 (v.Disks.map DiskT.cells))) e) | (have e := (by first | exact playH_7n hy (by assumption) (by assumption) | exact playH_An hy (by assumption) (by assumption) : (_ : HouseT) = playH H (acts.take (k + 1))); first | exact congrArg (fun v : HouseT => some (AObj.mk (.box) 30 4 [[.own 12320, .int .i64 v.Group.Term, .int .i64 v.Group.Lead, .own 12368]])) e | exact congrArg (fun v : HouseT => some (AObj.mk (.deep ReplicaT.shp) 60 3 (v.Group.Reps.map ReplicaT.cells))) e | exact congrArg (fun v : HouseT => some (AObj.mk (.deep DiskT.shp) 67 2 (v.Disks.map DiskT.cells))) e) | fail | fail, by first | rfl | first | rfl | (have e := (by first | exact playH_7 hy (by assumption) (by assumption) | exact playH_A hy (by assumption) (by assumption) : (_ : HouseT) = playH H (acts.take (k + 1))); first | exact congrArg (fun v : HouseT => some (AObj.mk (.box) 30 4 [[.own 12320, .int .i64 v.Group.Term, .int .i64 v.Group.Lead, .own 12368]])) e | exact congrArg (fun v : HouseT => some (AObj.mk (.deep ReplicaT.shp) 60 3 (v.Group.Reps.map ReplicaT.cells))) e | exact congrArg (fun v : HouseT => some (AObj.mk (.deep DiskT.shp) 67 2 (v.Disks.map DiskT.cells))) e) | (have e := (by first | exact playH_7n hy (by assumption) (by assumption) | exact playH_An hy (by assumption) (by assumption) : (_ : HouseT) = playH H (acts.take (k + 1))); first | exact congrArg (fun v : HouseT => some (AObj.mk (.box) 30 4 [[.own 12320, .int .i64 v.Group.Term, .int .i64 v.Group.Lead, .own 12368]])) e | exact congrArg (fun v : HouseT => some (AObj.mk (.deep ReplicaT.shp) 60 3 (v.Group.Reps.map ReplicaT.cells))) e | exact congrArg (fun v : HouseT => some (AObj.mk (.deep DiskT.shp) 67 2 (v.Disks.map DiskT.cells))) e) | fail | fail, by first | rfl | first | rfl | (have e := (by first | exact playH_7 hy (by assumption) (by assumption) | exact playH_A hy (by assumption) (by assumption) : (_ : HouseT) = playH H (acts.take (k + 1))); first | exact congrArg (fun v : HouseT => some (AObj.mk (.box) 30 4 [[.own 12320, .int .i64 v.Group.Term, .int .i64 v.Group.Lead, .own 12368]])) e | exact congrArg (fun v : HouseT => some (AObj.mk (.deep ReplicaT.shp) 60 3 (v.Group.Reps.map ReplicaT.cells))) e | exact congrArg (fun v : HouseT => some (AObj.mk (.deep DiskT.shp) 67 2 (v.Disks.map DiskT.cells))) e) | (have e := (by first | exact playH_7n hy (by assumption) (by assumption) | exact playH_An hy (by assumption) (by assumption) : (_ : HouseT) = playH H (acts.take (k + 1))); first | exact congrArg (fun v : HouseT => some (AObj.mk (.box) 30 4 [[.own 12320, .int .i64 v.Group.Term, .int .i64 v.Group.Lead, .own 12368]])) e | exact congrArg (fun v : HouseT => some (AObj.mk (.deep ReplicaT.shp) 60 3 (v.Group.Reps.map ReplicaT.cells))) e | exact congrArg (fun v : HouseT => some (AObj.mk (.deep DiskT.shp) 67 2 (v.Disks.map DiskT.cells))) e) | fail | fail, trivial⟩ (by (try dsimp only); first | (exact Nat.zero_le _) | fail) ?_; (conv => whnf); refine side_and (side_of (by first | exact fun k => rfl | exact fun k => by simp [headOk, closedE, closedO, closedL, AV.closed, hcap.closed, hasId, AObj.box, BK.ofB])) ?_; rintro k hT; try dsimp only at hT))
 | refine Again_ren 36976 12320 (by decide) rfl ?_; (conv => whnf); refine Again_ren 36977 12368 (by decide) rfl ?_; (conv => whnf); refine Again_of (k + 1) ⟨by first | rfl | exact i64_next (by omega) | (simp_all <;> fail) | fail, trivial⟩ ⟨by first | rfl | first | rfl | (have e := (by first | exact playH_7 hy (by assumption) (by assumption) | exact playH_A hy (by assumption) (by assumption) : (_ : HouseT) = playH H (acts.take (k + 1))); first | exact congrArg (fun v : HouseT => some (AObj.mk (.box) 30 4 [[.own 12320, .int .i64 v.Group.Term, .int .i64 v.Group.Lead, .own 12368]])) e | exact congrArg (fun v : HouseT => some (AObj.mk (.deep ReplicaT.shp) 60 3 (v.Group.Reps.map ReplicaT.cells))) e | exact congrArg (fun v : HouseT => some (AObj.mk (.deep DiskT.shp) 67 2 (v.Disks.map DiskT.cells))) e) | (have e := (by first | exact playH_7n hy (by assumption) (by assumption) | exact playH_An hy (by assumption) (by assumption) : (_ : HouseT) = playH H (acts.take (k + 1))); first | exact congrArg (fun v : HouseT => some (AObj.mk (.box) 30 4 [[.own 12320, .int .i64 v.Group.Term, .int .i64 v.Group.Lead, .own 12368]])) e | exact congrArg (fun v : HouseT => some (AObj.mk (.deep ReplicaT.shp) 60 3 (v.Group.Reps.map ReplicaT.cells))) e | exact congrArg (fun v : HouseT => some (AObj.mk (.deep DiskT.shp) 67 2 (v.Disks.map DiskT.cells))) e) | fail | fail, by first | rfl | first | rfl | (have e := (by first | exact playH_7 hy (by assumption) (by assumption) | exact playH_A hy (by assumption) (by assumption) : (_ : HouseT) = playH H (acts.take (k + 1))); first | exact congrArg (fun v : HouseT => some (AObj.mk (.box) 30 4 [[.own 12320, .int .i64 v.Group.Term, .int .i64 v.Group.Lead, .own 12368]])) e | exact congrArg (fun v : HouseT => some (AObj.mk (.deep ReplicaT.shp) 60 3 (v.Group.Reps.map ReplicaT.cells))) e | exact congrArg (fun v : HouseT => some (AObj.mk (.deep DiskT.shp) 67 2 (v.Disks.map DiskT.cells))) e) | (have e := (by first | exact playH_7n hy (by assumption) (by assumption) | exact playH_An hy (by assumption) (by assumption) : (_ : HouseT) = playH H (acts.take (k + 1))); first | exact congrArg (fun v : HouseT => some (AObj.mk (.box) 30 4 [[.own 12320, .int .i64 v.Group.Term, .int .i64 v.Group.Lead, .own 12368]])) e | exact congrArg (fun v : HouseT => some (AObj.mk (.deep ReplicaT.shp) 60 3 (v.Group.Reps.map ReplicaT.cells))) e | exact congrArg (fun v : HouseT => some (AObj.mk (.deep DiskT.shp) 67 2 (v.Disks.map DiskT.cells))) e) | fail | fail, by first | rfl | first | rfl | (have e := (by first | exact playH_7 hy (by assumption) (by assumption) | exact playH_A hy (by assumption) (by assumption) : (_ : HouseT) = playH H (acts.take (k + 1))); first | exact congrArg (fun v : HouseT => some (AObj.mk (.box) 30 4 [[.own 12320, .int .i64 v.Group.Term, .int .i64 v.Group.Lead, .own 12368]])) e | exact congrArg (fun v : HouseT => some (AObj.mk (.deep ReplicaT.shp) 60 3 (v.Group.Reps.map ReplicaT.cells))) e | exact congrArg (fun v : HouseT => some (AObj.mk (.deep DiskT.shp) 67 2 (v.Disks.map DiskT.cells))) e) | (have e := (by first | exact playH_7n hy (by assumption) (by assumption) | exact playH_An hy (by assumption) (by assumption) : (_ : HouseT) = playH H (acts.take (k + 1))); first | exact congrArg (fun v : HouseT => some (AObj.mk (.box) 30 4 [[.own 12320, .int .i64 v.Group.Term, .int .i64 v.Group.Lead, .own 12368]])) e | exact congrArg (fun v : HouseT => some (AObj.mk (.deep ReplicaT.shp) 60 3 (v.Group.Reps.map ReplicaT.cells))) e | exact congrArg (fun v : HouseT => some (AObj.mk (.deep DiskT.shp) 67 2 (v.Disks.map DiskT.cells))) e) | fail | fail, trivial⟩ (by first | (and_intros <;> first | rfl | trivial) | fail) (by first | (and_intros <;> first | rfl | trivial) | fail) rfl rfl rfl (by (try dsimp only); first | ((show k + 1 <= _; omega)) | fail) (show _ < _ by (try dsimp only); omega)
 | refine Again_ren 41088 12320 (by decide) rfl ?_; (conv => whnf); refine Again_ren 41089 12368 (by decide) rfl ?_; (conv => whnf); refine Again_of (k + 1) ⟨by first | rfl | exact i64_next (by omega) | (simp_all <;> fail) | fail, trivial⟩ ⟨by first | rfl | first | rfl | (have e := (by first | exact playH_7 hy (by assumption) (by assumption) | exact playH_A hy (by assumption) (by assumption) : (_ : HouseT) = playH H (acts.take (k + 1))); first | exact congrArg (fun v : HouseT => some (AObj.mk (.box) 30 4 [[.own 12320, .int .i64 v.Group.Term, .int .i64 v.Group.Lead, .own 12368]])) e | exact congrArg (fun v : HouseT => some (AObj.mk (.deep ReplicaT.shp) 60 3 (v.Group.Reps.map ReplicaT.cells))) e | exact congrArg (fun v : HouseT => some (AObj.mk (.deep DiskT.shp) 67 2 (v.Disks.map DiskT.cells))) e) | (have e := (by first | exact playH_7n hy (by assumption) (by assumption) | exact playH_An hy (by assumption) (by assumption) : (_ : HouseT) = playH H (acts.take (k + 1))); first | exact congrArg (fun v : HouseT => some (AObj.mk (.box) 30 4 [[.own 12320, .int .i64 v.Group.Term, .int .i64 v.Group.Lead, .own 12368]])) e | exact congrArg (fun v : HouseT => some (AObj.mk (.deep ReplicaT.shp) 60 3 (v.Group.Reps.map ReplicaT.cells))) e | exact congrArg (fun v : HouseT => some (AObj.mk (.deep DiskT.shp) 67 2 (v.Disks.map DiskT.cells))) e) | fail | fail, by first | rfl | first | rfl | (have e := (by first | exact playH_7 hy (by assumption) (by assumption) | exact playH_A hy (by assumption) (by assumption) : (_ : HouseT) = playH H (acts.take (k + 1))); first | exact congrArg (fun v : HouseT => some (AObj.mk (.box) 30 4 [[.own 12320, .int .i64 v.Group.Term, .int .i64 v.Group.Lead, .own 12368]])) e | exact congrArg (fun v : HouseT => some (AObj.mk (.deep ReplicaT.shp) 60 3 (v.Group.Reps.map ReplicaT.cells))) e | exact congrArg (fun v : HouseT => some (AObj.mk (.deep DiskT.shp) 67 2 (v.Disks.map DiskT.cells))) e) | (have e := (by first | exact playH_7n hy (by assumption) (by assumption) | exact playH_An hy (by assumption) (by assumption) : (_ : HouseT) = playH H (acts.take (k + 1))); first | exact congrArg (fun v : HouseT => some (AObj.mk (.box) 30 4 [[.own 12320, .int .i64 v.Group.Term, .int .i64 v.Group.Lead, .own 12368]])) e | exact congrArg (fun v : HouseT => some (AObj.mk (.deep ReplicaT.shp) 60 3 (v.Group.Reps.map ReplicaT.cells))) e | exact congrArg (fun v : HouseT => some (AObj.mk (.deep DiskT.shp) 67 2 (v.Disks.map DiskT.cells))) e) | fail | fail, by first | rfl | first | rfl | (have e := (by first | exact playH_7 hy (by assumption) (by assumption) | exact playH_A hy (by assumption) (by assumption) : (_ : HouseT) = playH H (acts.take (k + 1))); first | exact congrArg (fun v : HouseT => some (AObj.mk (.box) 30 4 [[.own 12320, .int .i64 v.Group.Term, .int .i64 v.Group.Lead, .own 12368]])) e | exact congrArg (fun v : HouseT => some (AObj.mk (.deep ReplicaT.shp) 60 3 (v.Group.Reps.map ReplicaT.cells))) e | exact congrArg (fun v : HouseT => some (AObj.mk (.deep DiskT.shp) 67 2 (v.Disks.map DiskT.cells))) e) | (have e := (by first | exact playH_7n hy (by assumption) (by assumption) | exact playH_An hy (by assumption) (by assumption) : (_ : HouseT) = playH H (acts.take (k + 1))); first | exact congrArg (fun v : HouseT => some (AObj.mk (.box) 30 4 [[.own 12320, .int .i64 v.Group.Term, .int .i64 v.Group.Lead, .own 12368]])) e | exact congrArg (fun v : HouseT => some (AObj.mk (.deep ReplicaT.shp) 60 3 (v.Group.Reps.map ReplicaT.cells))) e | exact congrArg (fun v : HouseT => some (AObj.mk (.deep DiskT.shp) 67 2 (v.Disks.map DiskT.cells))) e) | fail | fail, trivial⟩ (by first | (and_intros <;> first | rfl | trivial) | fail) (by first | (and_intros <;> first | rfl | trivial) | fail) rfl rfl rfl (by (try dsimp only); first | ((show k + 1 <= _; omega)) | fail) (show _ < _ by (try dsimp only); omega)
 | refine Again_of (k + 1) ⟨by first | rfl | exact i64_next (by omega) | (simp_all <;> fail) | fail, trivial⟩ ⟨by first | rfl | first | rfl | (have e := (by first | exact playH_7 hy (by assumption) (by assumption) | exact playH_A hy (by assumption) (by assumption) : (_ : HouseT) = playH H (acts.take (k + 1))); first | exact congrArg (fun v : HouseT => some (AObj.mk (.box) 30 4 [[.own 12320, .int .i64 v.Group.Term, .int .i64 v.Group.Lead, .own 12368]])) e | exact congrArg (fun v : HouseT => some (AObj.mk (.deep ReplicaT.shp) 60 3 (v.Group.Reps.map ReplicaT.cells))) e | exact congrArg (fun v : HouseT => some (AObj.mk (.deep DiskT.shp) 67 2 (v.Disks.map DiskT.cells))) e) | (have e := (by first | exact playH_7n hy (by assumption) (by assumption) | exact playH_An hy (by assumption) (by assumption) : (_ : HouseT) = playH H (acts.take (k + 1))); first | exact congrArg (fun v : HouseT => some (AObj.mk (.box) 30 4 [[.own 12320, .int .i64 v.Group.Term, .int .i64 v.Group.Lead, .own 12368]])) e | exact congrArg (fun v : HouseT => some (AObj.mk (.deep ReplicaT.shp) 60 3 (v.Group.Reps.map ReplicaT.cells))) e | exact congrArg (fun v : HouseT => some (AObj.mk (.deep DiskT.shp) 67 2 (v.Disks.map DiskT.cells))) e) | fail | fail, by first | rfl | first | rfl | (have e := (by first | exact playH_7 hy (by assumption) (by assumption) | exact playH_A hy (by assumption) (by assumption) : (_ : HouseT) = playH H (acts.take (k + 1))); first | exact congrArg (fun v : HouseT => some (AObj.mk (.box) 30 4 [[.own 12320, .int .i64 v.Group.Term, .int .i64 v.Group.Lead, .own 12368]])) e | exact congrArg (fun v : HouseT => some (AObj.mk (.deep ReplicaT.shp) 60 3 (v.Group.Reps.map ReplicaT.cells))) e | exact congrArg (fun v : HouseT => some (AObj.mk (.deep DiskT.shp) 67 2 (v.Disks.map DiskT.cells))) e) | (have e := (by first | exact playH_7n hy (by assumption) (by assumption) | exact playH_An hy (by assumption) (by assumption) : (_ : HouseT) = playH H (acts.take (k + 1))); first | exact congrArg (fun v : HouseT => some (AObj.mk (.box) 30 4 [[.own 12320, .int .i64 v.Group.Term, .int .i64 v.Group.Lead, .own 12368]])) e | exact congrArg (fun v : HouseT => some (AObj.mk (.deep ReplicaT.shp) 60 3 (v.Group.Reps.map ReplicaT.cells))) e | exact congrArg (fun v : HouseT => some (AObj.mk (.deep DiskT.shp) 67 2 (v.Disks.map DiskT.cells))) e) | fail | fail, by first | rfl | first | rfl | (have e := (by first | exact playH_7 hy (by assumption) (by assumption) | exact playH_A hy (by assumption) (by assumption) : (_ : HouseT) = playH H (acts.take (k + 1))); first | exact congrArg (fun v : HouseT => some (AObj.mk (.box) 30 4 [[.own 12320, .int .i64 v.Group.Term, .int .i64 v.Group.Lead, .own 12368]])) e | exact congrArg (fun v : HouseT => some (AObj.mk (.deep ReplicaT.shp) 60 3 (v.Group.Reps.map ReplicaT.cells))) e | exact congrArg (fun v : HouseT => some (AObj.mk (.deep DiskT.shp) 67 2 (v.Disks.map DiskT.cells))) e) | (have e := (by first | exact playH_7n hy (by assumption) (by assumption) | exact playH_An hy (by assumption) (by assumption) : (_ : HouseT) = playH H (acts.take (k + 1))); first | exact congrArg (fun v : HouseT => some (AObj.mk (.box) 30 4 [[.own 12320, .int .i64 v.Group.Term, .int .i64 v.Group.Lead, .own 12368]])) e | exact congrArg (fun v : HouseT => some (AObj.mk (.deep ReplicaT.shp) 60 3 (v.Group.Reps.map ReplicaT.cells))) e | exact congrArg (fun v : HouseT => some (AObj.mk (.deep DiskT.shp) 67 2 (v.Disks.map DiskT.cells))) e) | fail | fail, trivial⟩ (by first | (and_intros <;> first | rfl | trivial) | fail) (by first | (and_intros <;> first | rfl | trivial) | fail) rfl rfl rfl (by (try dsimp only); first | ((show k + 1 <= _; omega)) | fail) (show _ < _ by (try dsimp only); omega)
 | refine Call0 (c_impl_GoodHouse H f.small.1 f.hb) rfl rfl ?_
 | refine CallF (c_impl_tearHouse (playH H (acts.take k)) y.Rec y.Keep y.Torn (hv k).small.1 (hv k).hb (hy' hy).1.2.2.1 (hy' hy).2 (hv k).okHouse) rfl rfl rfl (Nat.le_of_ble_eq_true rfl) ?_
 | refine CallF (c_impl_actHouse (playH H (acts.take k)) (gaOf y) (hv k).small.1 (hv k).hb ⟨trivial, trivial, (hy' hy).1.2.2.1⟩ (hy' hy).2 (hv k).okHouse) rfl rfl rfl (Nat.le_of_ble_eq_true rfl) ?_
 | refine CallDF (c_impl_copyGroup H.Group f.hb.gb) rfl rfl ⟨rfl, rfl⟩ ?_
 | refine CallDF (c_Clone_Disk H.Disks hdl) rfl rfl ⟨rfl, rfl⟩ ?_
 | refine side_and (side_of (by first | exact ⟨Nat.le_of_ble_eq_true rfl, rfl⟩ | fail)) ?_
 | refine side_and (side_of (by first | exact Nat.le_of_ble_eq_true rfl | exact rfl | omega | fail)) ?_
 | refine side_and (side_of (by first | (and_intros <;> first | rfl | omega | exact Nat.le_of_ble_eq_true rfl) | fail)) ?_
 | fail
  all_goals
    conv => whnf
    first
    | (exfalso; omega)
    | (have e3 : k = acts.length := by omega
       subst e3
       exact OutA_deep rfl rfl rfl ⟨⟨rfl, rfl⟩, ⟨⟨rfl, rfl⟩, trivial⟩⟩ rfl)
    | trace_state
theorem c_impl_PlayHouse (H : HouseT) (acts : List HouseActT) (f : Fine H) (ha : okL HouseActT.ok acts) (hw : wL HouseActT.w acts <= 1048576) (hn : acts.length <= 120) : PC Tryz.prog false 9 [.agg H.cells, .sl (acts.map HouseActT.cells)] (.tup [.agg [.own 0, .int .i64 (playH H acts).Group.Term, .int .i64 (playH H acts).Group.Lead, .own 1], .bool true]) [⟨.deep ReplicaT.shp, 60, 3, (playH H acts).Group.Reps.map ReplicaT.cells⟩, ⟨.deep DiskT.shp, 67, 2, (playH H acts).Disks.map DiskT.cells⟩] := by
  have := c_impl_PlayHouseT H acts f ha hw hn
  rw [List.take_length] at this
  exact this
theorem c_spec_l11Own (H : HouseT) (hb : HB H) : PC Tryz.prog true 29 [.agg H.cells] (.agg [.own 0, .int .i64 H.Group.Term, .int .i64 H.Group.Lead, .own 1]) [⟨false, 60, 3, H.Group.Reps.map ReplicaT.cells⟩, ⟨false, 67, 2, H.Disks.map DiskT.cells⟩] := by
  have hdl := hb.dl
  refine pc_at Tryz.func29 rfl (by kernel_rfl) 11 [.cell 2 30] rfl rfl ?_
  repeat' (conv => whnf); first
 | refine draw_text (by kernel_rfl) (by kernel_rfl) (by kernel_rfl) ?_
 | refine CallDT (c_spec_l9Own H.Group hb.gb) rfl rfl rfl ⟨rfl, rfl⟩ ?_
 | refine side_and (side_of (by first | exact ⟨Nat.le_of_ble_eq_true rfl, rfl⟩ | fail)) ?_
 | refine side_and (side_of (by first | exact Nat.le_of_ble_eq_true rfl | exact rfl | omega | fail)) ?_
 | refine side_and (side_of (by first | (and_intros <;> first | rfl | omega | exact Nat.le_of_ble_eq_true rfl) | fail)) ?_
 | refine side_and (side_of (by first | (and_intros <;> first | exact Nat.le_of_ble_eq_true rfl | rfl | omega | (simp only [lensB, lensC]; omega) | exact bytes_ok (Nat.le_of_ble_eq_true rfl) (by omega) (by simp only [lensB, lensC]; omega) | exact bytes_okN (Nat.le_of_ble_eq_true rfl) (by simp only [lensB, lensC]; omega)) | fail)) ?_
 | refine side_and (side_of (map_len (fun _ => rfl))) ?_
 | refine side_and (side_of (map_one (fun _ => rfl) _)) ?_
 | fail
  all_goals
    conv => whnf
    exact OutA_ids rfl rfl rfl ⟨⟨_, _, _, rfl, rfl⟩, ⟨_, _, _, rfl, rfl⟩, trivial⟩ rfl (.inl rfl)
theorem stepS7 {h : HouseT} {a : HouseActT} (f : Fine h) (k : a.Kind = 7) (o : okTear h a.Rec a.Keep = true) : tearA h a.Rec a.Keep a.Torn = stepH h a := by
  obtain ⟨e1, e2⟩ := tearA_yes (r := a.Rec) (k := a.Keep) (torn := a.Torn) f.okHouse
  rw [e2]
  exact step7 k (e1.symm.trans o)
theorem stepS7n {h : HouseT} {a : HouseActT} (f : Fine h) (k : a.Kind = 7) (o : okTear h a.Rec a.Keep = false) : h = stepH h a := step7n k ((tearA_yes (r := a.Rec) (k := a.Keep) (torn := a.Torn) f.okHouse).1.symm.trans o)
theorem stepSA {h : HouseT} {a : HouseActT} (f : Fine h) (k : ¬ a.Kind = 7) (o : okA h (gaOf a) = true) : actA h (gaOf a) = stepH h a := by
  obtain ⟨e1, e2⟩ := actA_yes (a := gaOf a) f.okHouse
  rw [e2]
  exact stepA k (e1.symm.trans o)
theorem stepSAn {h : HouseT} {a : HouseActT} (f : Fine h) (k : ¬ a.Kind = 7) (o : okA h (gaOf a) = false) : h = stepH h a := stepAn k ((actA_yes (a := gaOf a) f.okHouse).1.symm.trans o)
theorem c_spec_PlayHouseT (H : HouseT) (acts : List HouseActT) (f : Fine H) (ha : okL HouseActT.ok acts) (hw : wL HouseActT.w acts <= 1048576) (hn : acts.length <= 120) : PC Tryz.prog true 10 [.agg H.cells, .sl (acts.map HouseActT.cells)] (.tup [.agg (playH H (acts.take acts.length)).cells, .bool true]) [] := by
  have hv : ∀ k, Fine (playH H (acts.take k)) := fun k => f.play
  have hy' : ∀ {k : Nat} {y : HouseActT}, acts[k]? = some y -> y.ok /\ y.w <= 1048576 := fun h => ⟨ha.2 _ (List.mem_of_getElem? h), by have := (wL_mem (w := HouseActT.w) (List.mem_of_getElem? h)).2; omega⟩
  have hg : okHouse H = true := f.okHouse
  refine pc_at Tryz.func10 rfl (by kernel_rfl) 61 [.cell 4 30, .tmp 5] rfl rfl ?_
  repeat' (conv => whnf); first
 | refine nameB_yes (b := okHouse H) hg ?_
 | (refine ix_as (f := HouseActT.cells) (m := k) rfl (by omega) (fun y hy => ?_))
 | (refine nameB_self (b := y.Torn) ?_)
 | (refine nameB_cases (b := okTear (playH H (acts.take k)) y.Rec y.Keep) (fun h => ?_) (fun h => ?_))
 | (refine nameB_cases (b := okA (playH H (acts.take k)) (gaOf y)) (fun h => ?_) (fun h => ?_))
 | refine nameB_false ?_
 | (refine nameB_dec (fun h => ?_) (fun h => ?_) <;> try simp only [lensB] at h)
 | refine splitB_true ?_
 | refine splitB_false ?_
 | ((refine Loop_frz [12304, 12305] ?_; refine Loop_at [1, 4, 6] [16] (Nat) (fun k => k <= acts.length) (fun k => [(7, .int .i64 (k : Nat))]) (fun k => [(12320, ⟨true, 30, 4, [(playH H (acts.take k)).cells]⟩)]) (fun k => acts.length - k) 0 ⟨by first | (simp_all <;> fail) | rfl | fail, trivial⟩ ⟨by first | rfl | first | rfl | (have e := (by first | exact (stepS7 (hv k) (by assumption) (by assumption)).trans (playH_next hy).symm | exact (stepSA (hv k) (by assumption) (by assumption)).trans (playH_next hy).symm | exact (stepS7n (hv k) (by assumption) (by assumption)).trans (playH_next hy).symm | exact (stepSAn (hv k) (by assumption) (by assumption)).trans (playH_next hy).symm : (_ : HouseT) = playH H (acts.take (k + 1))); exact congrArg (fun v : HouseT => some (AObj.mk (.box) 30 4 [v.cells])) e) | fail | fail, trivial⟩ (by (try dsimp only); first | (exact Nat.zero_le _) | fail) ?_; (conv => whnf); refine side_and (side_of (by first | exact fun k => rfl | exact fun k => by simp [headOk, closedE, closedO, closedL, AV.closed, hcap.closed, hasId, AObj.box, BK.ofB])) ?_; rintro k hT; try dsimp only at hT))
 | (refine Again_of (k + 1) ⟨by first | rfl | exact i64_next (by omega) | (simp_all <;> fail) | fail, trivial⟩ ⟨by first | rfl | first | rfl | (have e := (by first | exact (stepS7 (hv k) (by assumption) (by assumption)).trans (playH_next hy).symm | exact (stepSA (hv k) (by assumption) (by assumption)).trans (playH_next hy).symm | exact (stepS7n (hv k) (by assumption) (by assumption)).trans (playH_next hy).symm | exact (stepSAn (hv k) (by assumption) (by assumption)).trans (playH_next hy).symm : (_ : HouseT) = playH H (acts.take (k + 1))); exact congrArg (fun v : HouseT => some (AObj.mk (.box) 30 4 [v.cells])) e) | fail | fail, trivial⟩ (by first | (and_intros <;> first | rfl | trivial) | fail) (by first | (and_intros <;> first | rfl | trivial) | fail) rfl rfl rfl (by (try dsimp only); first | ((show k + 1 <= _; omega)) | fail) (show _ < _ by (try dsimp only); omega))
 | refine CallT (c_spec_l11Good H f.small.1 f.hb) rfl rfl rfl rfl (Nat.le_of_ble_eq_true rfl) ?_
 | refine CallT (c_spec_l11Own H f.hb) rfl rfl rfl rfl (Nat.le_of_ble_eq_true rfl) ?_
 | refine CallT (c_spec_TearHouse (playH H (acts.take k)) y.Rec y.Keep y.Torn (hv k).small.1 (hv k).hb (hy' hy).1.2.2.1 (hy' hy).2) rfl rfl rfl rfl (Nat.le_of_ble_eq_true rfl) ?_
 | refine CallT (c_spec_ActHouse (playH H (acts.take k)) (gaOf y) (hv k).small.1 (hv k).hb ⟨trivial, trivial, (hy' hy).1.2.2.1⟩ (hy' hy).2) rfl rfl rfl rfl (Nat.le_of_ble_eq_true rfl) ?_
 | refine side_and (side_of (by first | exact ⟨Nat.le_of_ble_eq_true rfl, rfl⟩ | fail)) ?_
 | refine side_and (side_of (by first | exact Nat.le_of_ble_eq_true rfl | exact rfl | omega | fail)) ?_
 | refine side_and (side_of (by first | (and_intros <;> first | rfl | omega | exact Nat.le_of_ble_eq_true rfl) | fail)) ?_
 | fail
  all_goals
    conv => whnf
    first
    | (exfalso; omega)
    | (have e3 : k = acts.length := by omega
       subst e3
       exact OutA_plain rfl rfl rfl)
theorem c_spec_PlayHouse (H : HouseT) (acts : List HouseActT) (f : Fine H) (ha : okL HouseActT.ok acts) (hw : wL HouseActT.w acts <= 1048576) (hn : acts.length <= 120) : PC Tryz.prog true 10 [.agg H.cells, .sl (acts.map HouseActT.cells)] (.tup [.agg (playH H acts).cells, .bool true]) [] := by
  have := c_spec_PlayHouseT H acts f ha hw hn
  rw [List.take_length] at this
  exact this
theorem c_laws_vBegins (a b : List EntryT) (ha : okL EntryT.ok a) (hb : b.length <= 1048576) : PC Tryz.prog false 22 [.sl (a.map EntryT.cells), .sl (b.map EntryT.cells)] (.bool (preE a b)) [] := by
  have hla := ha.1
  refine pc_at Tryz.func22 rfl (by kernel_rfl) 42 [.tmp 4] rfl rfl ?_
  repeat' (conv => whnf); first
 | refine ix_map_at hx ?_
 | refine ix_map_at hy ?_
 | refine ix_as (f := EntryT.cells) (xs := a) (m := k) rfl (by omega) (fun x hx => ?_)
 | refine ix_as (f := EntryT.cells) (xs := b) (m := k) rfl (by omega) (fun y hy => ?_)
 | refine nameB_true ?_
 | refine nameB_false ?_
 | (refine nameB_dec (fun h => ?_) (fun h => ?_) <;> try simp only [lensB] at h)
 | (refine nameB_cases (fun h => ?_) (fun h => ?_) <;> try simp only [nmL, lensB] at h)
 | refine splitB_true ?_
 | refine splitB_false ?_
 | refine draw_text (by kernel_rfl) (by kernel_rfl) (by kernel_rfl) ?_
 | ((refine Loop_at [0, 1] [] (Nat) (fun k => a.take k = b.take k /\ k <= b.length) (fun k => [(5, .int .i64 (k : Nat))]) (fun k => []) (fun k => b.length - k) 0 ⟨by first | (simp_all <;> fail) | rfl | fail, trivial⟩ trivial (by (try dsimp only); first | (exact ⟨rfl, Nat.zero_le _⟩) | fail) ?_; (conv => whnf); refine side_and (side_of (by first | exact fun k => rfl | exact fun k => by simp [headOk, closedE, closedO, closedL, AV.closed, hcap.closed, hasId, AObj.box, BK.ofB])) ?_; rintro k hT; try dsimp only at hT))
 | (refine Again_of (k + 1) ⟨by first | rfl | exact i64_next (by omega) | (simp_all <;> fail) | fail, trivial⟩ trivial (by first | (and_intros <;> first | rfl | trivial) | fail) (by first | (and_intros <;> first | rfl | trivial) | fail) rfl rfl rfl (by (try dsimp only); first | (exact ⟨take_next hT.1 hx hy (EntryT.same (by assumption) (by assumption)), by omega⟩) | fail) (show _ < _ by (try dsimp only); omega))
 | refine CallD0 (c_spec_SameRec x.Rec y.Rec (ha.2 x (List.mem_of_getElem? hx)).2) rfl rfl rfl ?_
 | refine side_and (side_of (by first | exact Nat.le_of_ble_eq_true rfl | exact rfl | omega | fail)) ?_
 | refine LoadK_of rfl rfl ?_
 | fail
  all_goals
    conv => whnf
    refine OutA_plain rfl rfl ?_
    first
    | exact congrArg AV.bool (preE_short (by omega)).symm
    | exact bool_yes (by have h9 : k = b.length := (by omega); have h8 := hT.1; rw [h9, List.take_length] at h8; exact h8)
    | exact bool_no (fun e => absurd (by have h9 := congrArg (fun l => l[k]?) e; simp only [List.getElem?_take_of_lt (show k < b.length by omega), hx, hy] at h9; exact Option.some.inj h9 : x = y) (by intro e; subst e; simp_all))
    | trace_state
theorem c_laws_vLog (a b : List EntryT) (ha : okL EntryT.ok a) (hb : b.length <= 1048576) : PC Tryz.prog false 21 [.sl (a.map EntryT.cells), .sl (b.map EntryT.cells)] (.bool (decide (a = b))) [] := by
  refine pc_at Tryz.func21 rfl (by kernel_rfl) 15 [.tmp 4] rfl rfl ?_
  repeat' (conv => whnf); first
 | (refine nameB_dec (fun h => ?_) (fun h => ?_) <;> try simp only [lensB] at h)
 | refine splitB_true ?_
 | refine splitB_false ?_
 | refine Call0 (c_laws_vBegins a b ha hb) rfl rfl ?_
 | fail
  all_goals
    conv => whnf
    refine OutA_plain rfl rfl ?_
    first
    | exact bool_yes (by have h8 : List.take b.length a = b := by assumption
                         rw [show b.length = a.length by omega, List.take_length] at h8; exact h8)
    | exact bool_no (by intro e; subst e; simp_all)
    | trace_state
theorem c_laws_vGroup (g : GroupT) (hok : g.ok) (hl : ∀ x ∈ g.Reps, x.Log.length <= 1048576) : PC Tryz.prog false 20 [.agg g.cells, .agg g.cells] (.bool true) [] := by
  have hgl := hok.1.1
  refine pc_at Tryz.func20 rfl (by kernel_rfl) 78 [.tmp 4] rfl rfl ?_
  repeat' (conv => whnf); first
 | refine ix_map_at hx ?_
 | refine ix_as (f := ReplicaT.cells) (xs := g.Reps) (m := k) rfl (by omega) (fun x hx => ?_)
 | refine nameB_self (b := x.Up) ?_
 | refine nameB_no (b := (x.Up != x.Up)) (by simp) ?_
 | refine nameB_yes (b := decide (x.Log = x.Log)) (by simp) ?_
 | refine nameB_false ?_
 | (refine nameB_dec (fun h => ?_) (fun h => ?_) <;> try simp only [lensB] at h)
 | (refine nameB_cases (fun h => ?_) (fun h => ?_) <;> try simp only [nmL, lensB] at h)
 | refine splitB_true ?_
 | refine splitB_false ?_
 | refine draw_text (by kernel_rfl) (by kernel_rfl) (by kernel_rfl) ?_
 | ((refine Loop_at [2, 3] [0, 16] (Nat) (fun k => k <= g.Reps.length) (fun k => [(5, .int .i64 (k : Nat))]) (fun k => []) (fun k => g.Reps.length - k) 0 ⟨by first | (simp_all <;> fail) | rfl | fail, trivial⟩ trivial (by (try dsimp only); first | (exact Nat.zero_le _) | fail) ?_; (conv => whnf); refine side_and (side_of (by first | exact fun k => rfl | exact fun k => by simp [headOk, closedE, closedO, closedL, AV.closed, hcap.closed, hasId, AObj.box, BK.ofB])) ?_; rintro k hT; try dsimp only at hT))
 | (refine Again_of (k + 1) ⟨by first | rfl | exact i64_next (by omega) | (simp_all <;> fail) | fail, trivial⟩ trivial (by first | (and_intros <;> first | rfl | trivial) | fail) (by first | (and_intros <;> first | rfl | trivial) | fail) rfl rfl rfl (by (try dsimp only); first | ((show k + 1 <= _; omega)) | fail) (show _ < _ by (try dsimp only); omega))
 | refine CallD0 (c_laws_vLog x.Log x.Log (hok.1.2 x (List.mem_of_getElem? hx)).2.1 (hl x (List.mem_of_getElem? hx))) rfl rfl rfl ?_
 | refine side_and (side_of (by first | exact Nat.le_of_ble_eq_true rfl | exact rfl | omega | fail)) ?_
 | refine LoadK_of rfl rfl ?_
 | fail
  all_goals
    conv => whnf
    first
    | exact OutA_plain rfl rfl rfl
    | (exfalso; simp_all; done)
    | trace_state
theorem c_laws_vHouse (H : HouseT) (hok : H.ok) (hl : ∀ x ∈ H.Group.Reps, x.Log.length <= 1048576) : PC Tryz.prog false 11 [.agg H.cells, .agg H.cells] (.bool true) [] := by
  have hdl := hok.2.1
  refine pc_at Tryz.func11 rfl (by kernel_rfl) 39 [.tmp 4] rfl rfl ?_
  repeat' (conv => whnf); first
 | refine ix_map_at hx ?_
 | refine ix_as (f := DiskT.cells) (xs := H.Disks) (m := k) rfl (by omega) (fun x hx => ?_)
 | refine nameB_true ?_
 | refine nameB_false ?_
 | (refine nameB_dec (fun h => ?_) (fun h => ?_) <;> try simp only [lensB] at h)
 | (refine nameB_cases (fun h => ?_) (fun h => ?_) <;> try simp only [nmL, lensB] at h)
 | refine splitB_true ?_
 | refine splitB_false ?_
 | refine draw_text (by kernel_rfl) (by kernel_rfl) (by kernel_rfl) ?_
 | ((refine Loop_at [2, 3] [0, 16] (Nat) (fun k => k <= H.Disks.length) (fun k => [(5, .int .i64 (k : Nat))]) (fun k => []) (fun k => H.Disks.length - k) 0 ⟨by first | (simp_all <;> fail) | rfl | fail, trivial⟩ trivial (by (try dsimp only); first | (exact Nat.zero_le _) | fail) ?_; (conv => whnf); refine side_and (side_of (by first | exact fun k => rfl | exact fun k => by simp [headOk, closedE, closedO, closedL, AV.closed, hcap.closed, hasId, AObj.box, BK.ofB])) ?_; rintro k hT; try dsimp only at hT))
 | (refine Again_of (k + 1) ⟨by first | rfl | exact i64_next (by omega) | (simp_all <;> fail) | fail, trivial⟩ trivial (by first | (and_intros <;> first | rfl | trivial) | fail) (by first | (and_intros <;> first | rfl | trivial) | fail) rfl rfl rfl (by (try dsimp only); first | ((show k + 1 <= _; omega)) | fail) (show _ < _ by (try dsimp only); omega))
 | refine Call0 (c_laws_vGroup H.Group hok.1 hl) rfl rfl ?_
 | refine side_and (side_of (by first | exact Nat.le_of_ble_eq_true rfl | exact rfl | omega | fail)) ?_
 | refine side_and (side_of (show Go.Ab.structOk _ _ = true by kernel_rfl)) ?_
 | refine LoadK_of rfl rfl ?_
 | fail
  all_goals
    conv => whnf
    first
    | exact OutA_plain rfl rfl rfl
    | (exfalso; simp_all; done)
    | trace_state
theorem fine_logs {h : HouseT} (f : Fine h) : ∀ x ∈ h.Group.Reps, x.Log.length <= 1048576 := fun x hx => by have := f.hb.log x hx; omega
theorem c_impl_NewHouse_n (n : Nat) (hn : n = 3 \/ n = 5) : PC Tryz.prog false 7 [.int .i64 (n : Int)] (.tup [.agg [.own 0, .int .i64 (newHouseN n).Group.Term, .int .i64 (newHouseN n).Group.Lead, .own 1], .bool true]) [⟨.deep ReplicaT.shp, 60, 3, (newHouseN n).Group.Reps.map ReplicaT.cells⟩, ⟨.deep DiskT.shp, 67, 2, (newHouseN n).Disks.map DiskT.cells⟩] := c_impl_NewHouse_yes n hn
theorem c_impl_PlayOne (H : HouseT) (a : HouseActT) (f : Fine H) (n : a.Rec.Reads = [] /\ a.Rec.Writes = []) : PC Tryz.prog false 9 [.agg H.cells, .sl [actC a]] (.tup [.agg [.own 0, .int .i64 (playH H [a]).Group.Term, .int .i64 (playH H [a]).Group.Lead, .own 1], .bool true]) [⟨.deep ReplicaT.shp, 60, 3, (playH H [a]).Group.Reps.map ReplicaT.cells⟩, ⟨.deep DiskT.shp, 67, 2, (playH H [a]).Disks.map DiskT.cells⟩] :=
  PC.actrow n.1 n.2 (c_impl_PlayHouse H [a] f (acts_ok n).1 (acts_ok n).2 (by show 1 <= _; decide))
theorem c_spec_PlayOne (H : HouseT) (a : HouseActT) (f : Fine H) (n : a.Rec.Reads = [] /\ a.Rec.Writes = []) : PC Tryz.prog true 10 [.agg H.cells, .sl [actC a]] (.tup [.agg (playH H [a]).cells, .bool true]) [] :=
  PC.actrow n.1 n.2 (c_spec_PlayHouse H [a] f (acts_ok n).1 (acts_ok n).2 (by show 1 <= _; decide))
theorem c_laws_FnHouse (code : List Int) (hu : okL okU code) : PC Tryz.prog false 3 [.sl (code.map u8C)] (.bool true) [] := by
  refine pc_at Tryz.func3 rfl (by kernel_rfl) 69 [.tmp 2] rfl rfl ?_
  repeat' (conv => whnf); first
 | refine nameB_yes (b := okHouse (playH H [actV code (4 * i + 1) (manyN code)])) hI.1.play.okHouse ?_
 | refine nameB_yes (b := safeB (playH H [actV code (4 * i + 1) (manyN code)]).Group) hI.1.play.safe ?_
 | refine nameB_true ?_
 | refine nameB_false ?_
 | (refine nameB_dec (fun h => ?_) (fun h => ?_) <;> try simp only [lensB] at h)
 | refine splitB_true ?_
 | refine splitB_false ?_
 | ((refine Loop_frz [16400, 16401] ?_; refine Loop_at [0, 3, 4] [] (Nat × HouseT) (fun j => match j with | (i, H) => Fine H /\ i <= 30) (fun j => match j with | (i, H) => [(6, .int .i64 (i : Nat))]) (fun j => match j with | (i, H) => [(16464, ⟨true, 30, 4, [H.cells]⟩)]) (fun j => match j with | (i, H) => 30 - i) (0, newHouseN (manyN code)) ⟨by first | (simp_all <;> fail) | rfl | fail, trivial⟩ ⟨by first | rfl | exact congrArg (fun e => some (AObj.mk _ _ _ e)) (set_rep hx) | exact congrArg (fun e => some (AObj.mk _ _ _ e)) start_rep | fail | fail, trivial⟩ (by (try dsimp only); first | (exact ⟨Fine.new (manyN_or code), Nat.zero_le _⟩) | fail) ?_; (conv => whnf); refine side_and (side_of (by first | exact fun ⟨i, H⟩ => rfl | exact fun ⟨i, H⟩ => by simp [headOk, closedE, closedO, closedL, AV.closed, hcap.closed, hasId, AObj.box, BK.ofB])) ?_; rintro ⟨i, H⟩ hI; try dsimp only at hI))
 | (refine Again_frz [36912, 36913] ?_; refine Again_of (i + 1, playH H [actV code (4 * i + 1) (manyN code)]) ⟨by first | rfl | exact i64_next (by omega) | (simp_all <;> fail) | fail, trivial⟩ ⟨by first | rfl | exact congrArg (fun e => some (AObj.mk _ _ _ e)) (set_rep hx) | exact congrArg (fun e => some (AObj.mk _ _ _ e)) start_rep | fail | fail, trivial⟩ (by first | (and_intros <;> first | rfl | trivial) | fail) (by first | (and_intros <;> first | rfl | trivial) | fail) rfl rfl rfl (by (try dsimp only); first | (exact ⟨hI.1.play, by omega⟩) | fail) (show _ < _ by (try dsimp only); omega))
 | refine Call0 (c_laws_vBig code) rfl rfl ?_
 | refine Call0 (c_laws_vAt code 0 hu (by omega) (by omega)) rfl rfl ?_
 | refine CallF (c_impl_NewHouse_n (manyN code) (manyN_or code)) (congrArg (fun x => [AV.int .i64 x]) (many_eq hu)) rfl rfl (Nat.le_of_ble_eq_true rfl) ?_
 | refine Call0 (c_laws_vHouseAct code (4 * i + 1) (manyN code) (manyI_or code) hu (by omega) (by omega)) (act_args hu (by omega)) rfl ?_
 | refine CallF (c_impl_PlayOne H (actV code (4 * i + 1) (manyN code)) hI.1 actV_nil) rfl rfl rfl (Nat.le_of_ble_eq_true rfl) ?_
 | refine Call0 (c_laws_vHouse (playH H [actV code (4 * i + 1) (manyN code)]) hI.1.play.small.1 (fine_logs hI.1.play)) rfl rfl ?_
 | refine Call0 (c_impl_GoodHouse (playH H [actV code (4 * i + 1) (manyN code)]) hI.1.play.small.1 hI.1.play.hb) rfl rfl ?_
 | refine Call0 (c_impl_IsSafe (playH H [actV code (4 * i + 1) (manyN code)]).Group hI.1.play.small.1.1 hI.1.play.hb.gb) rfl rfl ?_
 | refine side_and (side_of (by first | exact ⟨Nat.le_of_ble_eq_true rfl, rfl⟩ | fail)) ?_
 | refine side_and (side_of (by first | exact Nat.le_of_ble_eq_true rfl | exact rfl | omega | fail)) ?_
 | refine side_and (side_of (by first | (and_intros <;> first | rfl | omega | exact Nat.le_of_ble_eq_true rfl) | fail)) ?_
 | (show Go.Ab.CallA _ _ [_, .own _] _ _ _ _; refine CallTo (c_spec_PlayOne H (actV code (4 * i + 1) (manyN code)) hI.1 actV_nil) rfl rfl rfl rfl ?_)
 | fail
  all_goals
    conv => whnf
    first
    | exact OutA_plain rfl rfl rfl
    | trace_state
end Go.Proofs.YtjjjalcmcifncaaGreat
