/- Part 7 of one proof: lemmas and contracts, laid one behind the other. No condition. -/
import Derived.Test.YtjjjalcmcifncaaGreatF1
import Derived.Test.YtjjjalcmcifncaaGreatM5
import Derived.Test.YtjjjalcmcifncaaGreatF6
import Derived.Test.YtjjjalcmcifncaaGreatF5
import Derived.Test.YtjjjalcmcifncaaGreatF3
import Derived.Test.YtjjjalcmcifncaaGreatF4
import Derived.Test.YtjjjalcmcifncaaGreatF2
namespace Go.Proofs.YtjjjalcmcifncaaGreat
open Go.Ab
set_option linter.unusedSimpArgs false
set_option maxRecDepth 20000
set_option maxHeartbeats 4000000
set_option linter.unusedVariables false
def newRep : ReplicaT := ⟨true, [], 0⟩
def repN (b : Bool) : List AV := [.bool b, .nil, .int .i64 0]
abbrev isMany (m : Int) : Bool := okMany m
theorem rep_copy {α : Type} {A B : α} {k n lo m t : Nat} {L : List α} (hL : L = List.replicate k A ++ List.replicate (n - k) B) (hk : k <= n) (hlo : lo = k) (ht : t = k) (hm : m = min k (n - k)) :
    splice L lo (((L.drop 0).take t).take m) = List.replicate (k + min k (n - k)) A ++ List.replicate (n - (k + min k (n - k))) B := by
  subst hlo ht hm hL
  have h1 : (List.replicate t A ++ List.replicate (n - t) B).take t = List.replicate t A := by
    rw [List.take_append, List.take_of_length_le (by simp), List.length_replicate, Nat.sub_self, List.take_zero, List.append_nil]
  unfold splice
  rw [List.drop_zero, h1, List.take_replicate, List.length_replicate, List.drop_append, List.drop_of_length_le (by simp), List.length_replicate, List.nil_append, List.drop_replicate, List.replicate_append_replicate]
  congr 2
  · omega
  · omega
theorem c_Mul64_3 : PC Tryz.prog false 109 [.int .u64 1, .int .u64 3] (.tup [.int .u64 0, .int .u64 3]) [] := by
  refine pc_at Tryz.func109 rfl (by kernel_rfl) 51 [.tmp 4, .tmp 5] rfl rfl ?_
  repeat' (conv => whnf); first
 | refine sdA (by first | exact nbT rfl | exact rfl | omega | fail) ?_
 | fail
  all_goals
    conv => whnf
    exact OutA_plain rfl rfl (by rfl)
theorem c_Mul_3 : PC Tryz.prog false 73 [.int .u64 1, .int .u64 3] (.tup [.int .u64 0, .int .u64 3]) [] := by
  refine pc_at Tryz.func73 rfl (by kernel_rfl) 30 [.tmp 4, .tmp 5] rfl rfl ?_
  repeat' (conv => whnf); first
 | refine splitB_false ?_
 | refine Call0 (c_Mul64_3) rfl rfl ?_
 | fail
  all_goals
    conv => whnf
    exact OutA_plain rfl rfl (by rfl)
theorem c_Mul64_5 : PC Tryz.prog false 109 [.int .u64 1, .int .u64 5] (.tup [.int .u64 0, .int .u64 5]) [] := by
  refine pc_at Tryz.func109 rfl (by kernel_rfl) 51 [.tmp 4, .tmp 5] rfl rfl ?_
  repeat' (conv => whnf); first
 | refine sdA (by first | exact nbT rfl | exact rfl | omega | fail) ?_
 | fail
  all_goals
    conv => whnf
    exact OutA_plain rfl rfl (by rfl)
theorem c_Mul_5 : PC Tryz.prog false 73 [.int .u64 1, .int .u64 5] (.tup [.int .u64 0, .int .u64 5]) [] := by
  refine pc_at Tryz.func73 rfl (by kernel_rfl) 30 [.tmp 4, .tmp 5] rfl rfl ?_
  repeat' (conv => whnf); first
 | refine splitB_false ?_
 | refine Call0 (c_Mul64_5) rfl rfl ?_
 | fail
  all_goals
    conv => whnf
    exact OutA_plain rfl rfl (by rfl)
theorem c_Repeat_3 : XC Tryz.prog 37 [⟨false, 60, 3, [repN true]⟩] [.own 0, .int .i64 3] (.own 0) [⟨false, 60, 3, List.replicate 3 (repN true)⟩] := by
  refine xc_at Tryz.func37 rfl (by kernel_rfl) 48 [.tmp 4] rfl rfl rfl ?_
  repeat' (conv => whnf); first
 | (show Go.Ab.drawA _ _ _ _ _; refine draw_exp (.take 0 (.take 1 (.take 2 (.take 4 (.take 5 (.fork 3 (.fork 6 (.fork 7 (.take 8 (.take 9 (.done))) (.stop)) (.stop)) (.fork 6 (.fork 3 (.fork 7 (.take 8 (.take 9 (.done))) (.stop)) (.stop)) (.stop)))))))) (by kernel_rfl) (by kernel_rfl) (by kernel_rfl) ?_)
 | simp only [laT, List.length_replicate] at h
 | exact side_of ⟨by decide, by decide, by decide, by decide⟩
 | refine nameB_false ?_
 | (refine nameB_dec (fun h => ?_) (fun h => ?_) <;> try simp only [lensB] at h)
 | refine splitB_true ?_
 | refine splitB_false ?_
 | refine both_intro ?_ ?_
 | exact True.intro
 | ((refine Loop_at [7] [] (Nat) (fun k => 1 <= k /\ k <= 3) (fun k => [(8, .int .i64 (k : Nat))]) (fun k => [(24624, ⟨false, 60, 3, List.replicate k (repN true) ++ List.replicate (3 - k) (repN false)⟩)]) (fun k => 3 - k) 1 ⟨by first | first | rfl | exact congrArg (AV.int .i64) (by simp only [laT, List.length_replicate, List.length_take, List.length_drop, Int.toNat_natCast, List.drop_zero]; rw [i64w (by omega) (by omega)]; omega) | rfl | fail, trivial⟩ ⟨by first | rfl | exact rfl | exact congrArg (fun e => some (AObj.mk _ _ _ e)) (rep_copy (n := 3) rfl (by omega) (by simp) (by simp) (by simp only [laT, List.length_replicate, List.length_take, List.length_drop, Int.toNat_natCast, List.drop_zero]; omega)) | fail | fail, trivial⟩ (by (try dsimp only); first | (exact ⟨by omega, by omega⟩) | fail) ?_; (conv => whnf); refine side_and (side_of (by first | exact fun k => rfl | exact fun k => by simp [headOk, closedE, closedO, closedL, AV.closed, hcap.closed, hasId, AObj.box, BK.ofB])) ?_; rintro k hT; try dsimp only at hT))
 | (refine Again_of (k + min k (3 - k)) ⟨by first | rfl | exact i64_next (by omega) | first | rfl | exact congrArg (AV.int .i64) (by simp only [laT, List.length_replicate, List.length_take, List.length_drop, Int.toNat_natCast, List.drop_zero]; rw [i64w (by omega) (by omega)]; omega) | fail, trivial⟩ ⟨by first | rfl | exact rfl | exact congrArg (fun e => some (AObj.mk _ _ _ e)) (rep_copy (n := 3) rfl (by omega) (by simp) (by simp) (by simp only [laT, List.length_replicate, List.length_take, List.length_drop, Int.toNat_natCast, List.drop_zero]; omega)) | fail | fail, trivial⟩ (by first | (and_intros <;> first | rfl | trivial) | fail) (by first | (and_intros <;> first | rfl | trivial) | fail) rfl rfl rfl (by (try dsimp only); first | (exact ⟨by omega, by omega⟩) | fail) (show _ < _ by (try dsimp only); omega))
 | refine Call0 (c_Mul_3) rfl rfl ?_
 | (refine hook_sliceO rfl rfl rfl rfl rfl rfl (by first | (and_intros <;> first | omega | (simp only [lensB, lensC, splice_lenU, Int.toNat_natCast]; omega)) | fail) (fun cp hcp => ?_); try simp only [lensB, lensC, splice_lenU, Int.toNat_natCast] at hcp)
 | refine hook_copy rfl rfl rfl rfl rfl rfl rfl (by first | exact trivial | (show _ <= _; simp only [lensB, lensC, splice_lenU, Int.toNat_natCast]; omega) | (show _ <= _; omega) | fail) rfl (by first | (and_intros <;> first | omega | (simp only [lensB, lensC, splice_lenU, Int.toNat_natCast]; omega)) | fail) ?_
 | refine hook_copyO rfl rfl rfl rfl rfl rfl rfl (by first | exact trivial | (show _ <= _; simp only [lensB, lensC, splice_lenU, Int.toNat_natCast]; omega) | (show _ <= _; omega) | fail) rfl ?_
 | refine sdA (by first | (and_intros <;> first | rfl | omega | exact nbT rfl) | fail) ?_
 | refine side_and ?_ ?_
 | fail
  all_goals
    conv => whnf
    exact OutA_ids rfl rfl rfl ⟨⟨_, _, _, rfl, congrArg (AObj.mk _ _ _) (by have e : k = 3 := (by first | omega | fail); subst e; rfl)⟩, trivial⟩ rfl (.inr (fun o ho => by simp at ho; subst ho; rfl))
theorem c_Repeat_5 : XC Tryz.prog 37 [⟨false, 60, 3, [repN true]⟩] [.own 0, .int .i64 5] (.own 0) [⟨false, 60, 3, List.replicate 5 (repN true)⟩] := by
  refine xc_at Tryz.func37 rfl (by kernel_rfl) 48 [.tmp 4] rfl rfl rfl ?_
  repeat' (conv => whnf); first
 | (show Go.Ab.drawA _ _ _ _ _; refine draw_exp (.take 0 (.take 1 (.take 2 (.take 4 (.take 5 (.fork 3 (.fork 6 (.fork 7 (.take 8 (.take 9 (.done))) (.stop)) (.stop)) (.fork 6 (.fork 3 (.fork 7 (.take 8 (.take 9 (.done))) (.stop)) (.stop)) (.stop)))))))) (by kernel_rfl) (by kernel_rfl) (by kernel_rfl) ?_)
 | simp only [laT, List.length_replicate] at h
 | exact side_of ⟨by decide, by decide, by decide, by decide⟩
 | refine nameB_false ?_
 | (refine nameB_dec (fun h => ?_) (fun h => ?_) <;> try simp only [lensB] at h)
 | refine splitB_true ?_
 | refine splitB_false ?_
 | refine both_intro ?_ ?_
 | exact True.intro
 | ((refine Loop_at [7] [] (Nat) (fun k => 1 <= k /\ k <= 5) (fun k => [(8, .int .i64 (k : Nat))]) (fun k => [(24624, ⟨false, 60, 3, List.replicate k (repN true) ++ List.replicate (5 - k) (repN false)⟩)]) (fun k => 5 - k) 1 ⟨by first | first | rfl | exact congrArg (AV.int .i64) (by simp only [laT, List.length_replicate, List.length_take, List.length_drop, Int.toNat_natCast, List.drop_zero]; rw [i64w (by omega) (by omega)]; omega) | rfl | fail, trivial⟩ ⟨by first | rfl | exact rfl | exact congrArg (fun e => some (AObj.mk _ _ _ e)) (rep_copy (n := 5) rfl (by omega) (by simp) (by simp) (by simp only [laT, List.length_replicate, List.length_take, List.length_drop, Int.toNat_natCast, List.drop_zero]; omega)) | fail | fail, trivial⟩ (by (try dsimp only); first | (exact ⟨by omega, by omega⟩) | fail) ?_; (conv => whnf); refine side_and (side_of (by first | exact fun k => rfl | exact fun k => by simp [headOk, closedE, closedO, closedL, AV.closed, hcap.closed, hasId, AObj.box, BK.ofB])) ?_; rintro k hT; try dsimp only at hT))
 | (refine Again_of (k + min k (5 - k)) ⟨by first | rfl | exact i64_next (by omega) | first | rfl | exact congrArg (AV.int .i64) (by simp only [laT, List.length_replicate, List.length_take, List.length_drop, Int.toNat_natCast, List.drop_zero]; rw [i64w (by omega) (by omega)]; omega) | fail, trivial⟩ ⟨by first | rfl | exact rfl | exact congrArg (fun e => some (AObj.mk _ _ _ e)) (rep_copy (n := 5) rfl (by omega) (by simp) (by simp) (by simp only [laT, List.length_replicate, List.length_take, List.length_drop, Int.toNat_natCast, List.drop_zero]; omega)) | fail | fail, trivial⟩ (by first | (and_intros <;> first | rfl | trivial) | fail) (by first | (and_intros <;> first | rfl | trivial) | fail) rfl rfl rfl (by (try dsimp only); first | (exact ⟨by omega, by omega⟩) | fail) (show _ < _ by (try dsimp only); omega))
 | refine Call0 (c_Mul_5) rfl rfl ?_
 | (refine hook_sliceO rfl rfl rfl rfl rfl rfl (by first | (and_intros <;> first | omega | (simp only [lensB, lensC, splice_lenU, Int.toNat_natCast]; omega)) | fail) (fun cp hcp => ?_); try simp only [lensB, lensC, splice_lenU, Int.toNat_natCast] at hcp)
 | refine hook_copy rfl rfl rfl rfl rfl rfl rfl (by first | exact trivial | (show _ <= _; simp only [lensB, lensC, splice_lenU, Int.toNat_natCast]; omega) | (show _ <= _; omega) | fail) rfl (by first | (and_intros <;> first | omega | (simp only [lensB, lensC, splice_lenU, Int.toNat_natCast]; omega)) | fail) ?_
 | refine hook_copyO rfl rfl rfl rfl rfl rfl rfl (by first | exact trivial | (show _ <= _; simp only [lensB, lensC, splice_lenU, Int.toNat_natCast]; omega) | (show _ <= _; omega) | fail) rfl ?_
 | refine sdA (by first | (and_intros <;> first | rfl | omega | exact nbT rfl) | fail) ?_
 | refine side_and ?_ ?_
 | fail
  all_goals
    conv => whnf
    exact OutA_ids rfl rfl rfl ⟨⟨_, _, _, rfl, congrArg (AObj.mk _ _ _) (by have e : k = 5 := (by first | omega | fail); subst e; rfl)⟩, trivial⟩ rfl (.inr (fun o ho => by simp at ho; subst ho; rfl))
theorem c_Repeat_Replica (n : Nat) (hn : n = 3 \/ n = 5) : XC Tryz.prog 37 [⟨false, 60, 3, [repN true]⟩] [.own 0, .int .i64 (n : Int)] (.own 0) [⟨false, 60, 3, List.replicate n (repN true)⟩] := by
  rcases hn with rfl | rfl
  · exact c_Repeat_3
  · exact c_Repeat_5
theorem flat_rep (n : Nat) : (List.replicate n (repN true)).flatten.all AV.flat = true := by
  induction n with
  | zero => rfl
  | succ n ih => rw [List.replicate_succ, List.flatten_cons, List.all_append, ih]; rfl
theorem isMany_yes {n : Nat} (hn : n = 3 \/ n = 5) : isMany (n : Int) = true := by rcases hn with rfl | rfl <;> rfl
theorem c_impl_NewGroup_yes (n : Nat) (hn : n = 3 \/ n = 5) : PC Tryz.prog false 14 [.int .i64 (n : Int)] (.tup [.agg [.own 0, .int .i64 0, .int .i64 (-1)], .bool true]) [⟨false, 60, 3, List.replicate n (repN true)⟩] := by
  refine pc_at Tryz.func14 rfl (by kernel_rfl) 13 [.cell 2 27, .tmp 3] rfl rfl ?_
  repeat' (conv => whnf); first
 | refine nameB_yes (b := isMany (n : Int)) (isMany_yes hn) ?_
 | refine nameB_false ?_
 | refine splitB_false ?_
 | refine Call0 (c_impl_isMany ..) rfl rfl ?_
 | refine CallX (c_Repeat_Replica n hn) [12304] rfl ⟨rfl, trivial⟩ rfl rfl rfl ?_
 | refine sdA ⟨nbT rfl, rfl⟩ ?_
 | refine sdA (by first | (and_intros <;> first | rfl | omega | exact nbT rfl) | fail) ?_
 | fail
  all_goals
    conv => whnf
    exact OutA_ids rfl rfl rfl ⟨⟨_, _, _, rfl, rfl⟩, trivial⟩ rfl (.inr (flat_one (flat_rep _)))
def newHouseN (n : Nat) : HouseT := ⟨⟨List.replicate n newRep, 0, -1⟩, List.replicate n ⟨[], []⟩⟩
theorem flat_repD (n : Nat) : ∀ e ∈ List.replicate n ([.str [], .str []] : List AV), flatFit DiskT.shp e = true := prom_rep rfl
theorem flat_repR (n : Nat) : ∀ e ∈ List.replicate n (repN true), flatFit ReplicaT.shp e = true := prom_rep rfl
theorem deN_map (n : Nat) : (List.replicate n (repN true)).map (List.map deNil) = (List.replicate n newRep).map ReplicaT.cells := by
  rw [List.map_replicate, List.map_replicate]
  rfl
theorem dsk_map (n : Nat) : List.replicate n ([.str [], .str []] : List AV) = (List.replicate n (⟨[], []⟩ : DiskT)).map DiskT.cells := by
  rw [List.map_replicate]
  rfl
theorem c_impl_NewHouse_yes (n : Nat) (hn : n = 3 \/ n = 5) : PC Tryz.prog false 7 [.int .i64 (n : Int)] (.tup [.agg [.own 0, .int .i64 0, .int .i64 (-1), .own 1], .bool true]) [⟨.deep ReplicaT.shp, 60, 3, (List.replicate n newRep).map ReplicaT.cells⟩, ⟨.deep DiskT.shp, 67, 2, (List.replicate n (⟨[], []⟩ : DiskT)).map DiskT.cells⟩] := by
  refine pc_at Tryz.func7 rfl (by kernel_rfl) 18 [.cell 2 30, .tmp 3] rfl rfl ?_
  repeat' (conv => whnf); first
 | exact side_of (by rcases hn with rfl | rfl <;> decide)
 | refine nameB_true ?_
 | refine nameB_false ?_
 | refine splitB_false ?_
 | refine draw_text (by kernel_rfl) (by kernel_rfl) (by kernel_rfl) ?_
 | refine CallF (c_impl_NewGroup_yes n hn) rfl rfl rfl (nbT rfl) ?_
 | refine sdA ⟨nbT rfl, rfl⟩ ?_
 | refine sdA (by first | (and_intros <;> first | rfl | omega | exact nbT rfl) | fail) ?_
 | refine side_and ?_ ?_
 | fail
  all_goals
    conv => whnf
    refine OutA_prom [(4112, ReplicaT.shp), (16416, DiskT.shp)] ⟨⟨_, _, _, rfl, flat_repR n⟩, ⟨_, _, _, rfl, flat_repD n⟩, trivial⟩ ?_
    conv => whnf
    refine OutA_deNil 4112 rfl rfl ?_
    conv => whnf
    exact OutA_deep rfl rfl rfl ⟨⟨congrArg (fun e => some (AObj.mk _ _ _ e)) (deN_map n), rfl⟩, ⟨congrArg (fun e => some (AObj.mk _ _ _ e)) (dsk_map n), rfl⟩, trivial⟩ rfl
theorem Fine.okHouse {h : HouseT} (f : Fine h) : Proofs.YtjjjalcmcifncaaGreat.okHouse h = true := okH_iff.2 f.oh
theorem Fine.safe {h : HouseT} (f : Fine h) : safeB h.Group = true := by
  unfold safeB
  rw [f.oh.g, Bool.true_and, List.all_eq_true]
  intro x hx
  obtain ⟨i, hi⟩ := List.getElem?_of_mem hx
  have lx := (f.log hi).2
  rw [baT, List.all_eq_true]
  refine ⟨fun y hy => ?_, ?_⟩
  · obtain ⟨k, hk⟩ := List.getElem?_of_mem hy
    have ly := (f.log hk).2
    unfold pairS
    rw [Bool.or_eq_true, preE_iff, preE_iff]
    unfold sureL
    by_cases hle : x.Sure <= y.Sure
    · obtain ⟨e, _, _⟩ := f.agree (m := x.Sure.toNat) hi hk (by omega) (by omega)
      refine .inr ?_
      rw [e]
      exact List.take_prefix_take_left (by omega)
    · obtain ⟨e, _, _⟩ := f.agree (m := y.Sure.toNat) hi hk (by omega) (by omega)
      refine .inl ?_
      rw [<- e]
      exact List.take_prefix_take_left (by omega)
  · unfold ledS
    by_cases h0 : 0 <= h.Group.Lead
    · obtain ⟨l, hl, _, _⟩ := lead_of (okG_iff.1 f.oh.g).lead h0
      rw [logOf_of hl, show preE l.Log (sureL x) = true from preE_iff.2 (f.led h0 hi hl)]
      simp
    · rw [decide_eq_false h0]; rfl
theorem onK_nil : onK ⟨[], []⟩ = [] := by
  have := frames_all (l := []) (by simp)
  unfold onK
  show (frames [] 0).1.map outE = []
  rw [show ([] : List UInt8) = (([] : List (List UInt8)).map frB).flatten from rfl, this]
  rfl
theorem Fine.new {n : Nat} (hn : n = 3 \/ n = 5) : Fine (newHouseN n) := by
  have hrep : ∀ (i : Nat) (x : ReplicaT), (List.replicate n newRep)[i]? = some x -> x = newRep := fun i x h => by
    have := mgE h
    exact List.eq_of_mem_replicate this
  have hdsk : ∀ (i : Nat) (d : DiskT), (List.replicate n (⟨[], []⟩ : DiskT))[i]? = some d -> d = ⟨[], []⟩ := fun i x h => List.eq_of_mem_replicate (mgE h)
  have hfr : frames [] 0 = ([], 0) := by
    have := frames_all (l := []) (by simp)
    exact this
  refine ⟨⟨okG_iff.2 ⟨?_, ⟨Int.le_refl _, by show (0 : Int) <= 200; decide⟩, rfl, fun x hx => ?_⟩, ?_, fun i x d hx hd => ?_⟩, fun h => ?_, ?_⟩
  · show okMany ((List.replicate n newRep).length : Int) = true
    rw [List.length_replicate]
    rcases hn with rfl | rfl <;> rfl
  · rw [List.eq_of_mem_replicate hx]; rfl
  · show (List.replicate n _).length = (List.replicate n _).length
    rw [List.length_replicate, List.length_replicate]
  · rw [hrep i x hx, hdsk i d hd]
    refine fit_iff.2 ⟨rfl, ?_, ?_, fun _ => ⟨onK_nil, ?_⟩, fun _ => .inl onK_nil⟩
    · show (frames [] 0).1.all okE = true
      rw [hfr]; rfl
    · exact List.nil_prefix
    · show (frames [] 0).2 = 0
      rw [hfr]
  · exact absurd (show (0 : Int) <= -1 from h) (by decide)
  · refine Go.Safe.Inv.start ?_ (fun i _ => ?_) (fun i _ => ?_) rfl
    · show 0 < (List.replicate n newRep).length
      rw [List.length_replicate]; omega
    · unfold sysD
      cases h : (newHouseN n).Disks[i]? with
      | none => rfl
      | some d => rw [hdsk i d h]; exact onK_nil
    · unfold sysS
      cases h : (newHouseN n).Group.Reps[i]? with
      | none => rfl
      | some x => rw [hrep i x h]; rfl
theorem okG_small {g : GroupT} (o : okGroup g = true) : g.ok /\ g.w <= 155010 /\ ∀ x ∈ g.Reps, x.w <= 31000 := by
  have og := okG_iff.1 o
  have h1 : ∀ x ∈ g.Reps, x.ok /\ x.w <= 31000 := fun x hx => by
    have q := okRep_iff.1 (og.rep x hx)
    obtain ⟨q1, q2⟩ := log_w (L := x.Log) (by have := q.1.len; omega) (fun e he => (q.1.ent e he).1)
    exact ⟨⟨trivial, q1, trivial⟩, q2⟩
  have hl := okG_len o
  have := wL_bound (w := ReplicaT.w) (B := 31000) (xs := g.Reps) (fun y hy => (h1 y hy).2) hl
  have e : g.w = wL ReplicaT.w g.Reps := rfl
  exact ⟨⟨⟨by omega, fun x hx => (h1 x hx).1⟩, trivial, trivial⟩, by omega, fun x hx => (h1 x hx).2⟩
theorem Fine.small {h : HouseT} (f : Fine h) : h.ok /\ h.w <= 500000 := by
  obtain ⟨g1, g2, g3⟩ := okG_small f.oh.g
  have hl := okG_len f.oh.g
  have hd : ∀ d ∈ h.Disks, d.ok /\ d.w <= 50000 := fun d hd => by
    obtain ⟨n, hn⟩ := List.getElem?_of_mem hd
    have hn2 := (List.getElem?_eq_some_iff.1 hn).1
    have ft := f.fit (List.getElem?_eq_getElem (show n < h.Group.Reps.length by rw [<- f.oh.len]; exact hn2)) hn
    obtain ⟨m1, m2, m3⟩ := mendB_of ft.mend
    have hw := okDsk_w m1
    have e : d.w = d.Kept.length + d.Loose.length := rfl
    exact ⟨⟨by show d.Kept.length <= _; omega, by show d.Loose.length <= _; omega⟩, by omega⟩
  have hdl : h.Disks.length <= 5 := by rw [f.oh.len]; exact hl
  have := wL_bound (w := DiskT.w) (B := 50000) (xs := h.Disks) (fun y hy => (hd y hy).2) hdl
  have e : h.w = h.Group.w + wL DiskT.w h.Disks := rfl
  exact ⟨⟨g1, ⟨by omega, fun x hx => (hd x hx).1⟩⟩, by omega⟩
theorem Fine.hb {h : HouseT} (f : Fine h) : HB h := hb_of (by have := f.small.2; omega)
def gaOf (a : HouseActT) : GroupActT := ⟨a.Kind, a.Rep, a.Rec⟩
def okStepH (h : HouseT) (a : HouseActT) : Bool := if a.Kind = 7 then okTearI h a.Rec a.Keep else okActI h (gaOf a)
def stepH (h : HouseT) (a : HouseActT) : HouseT := match okStepH h a with | true => (if a.Kind = 7 then tearI h a.Rec a.Keep a.Torn else actI h (gaOf a)) | false => h
theorem step7 {h : HouseT} {a : HouseActT} (k : a.Kind = 7) (o : okTearI h a.Rec a.Keep = true) : tearI h a.Rec a.Keep a.Torn = stepH h a := by
  unfold stepH okStepH
  rw [if_pos k, o, if_pos k]
theorem step7n {h : HouseT} {a : HouseActT} (k : a.Kind = 7) (o : okTearI h a.Rec a.Keep = false) : h = stepH h a := by
  unfold stepH okStepH
  rw [if_pos k, o]
theorem stepA {h : HouseT} {a : HouseActT} (k : ¬ a.Kind = 7) (o : okActI h (gaOf a) = true) : actI h (gaOf a) = stepH h a := by
  unfold stepH okStepH
  rw [if_neg k, o, if_neg k]
theorem stepAn {h : HouseT} {a : HouseActT} (k : ¬ a.Kind = 7) (o : okActI h (gaOf a) = false) : h = stepH h a := by
  unfold stepH okStepH
  rw [if_neg k, o]
theorem Fine.step {h : HouseT} {a : HouseActT} (f : Fine h) : Fine (stepH h a) := by
  by_cases k : a.Kind = 7
  · cases o : okTearI h a.Rec a.Keep with
    | true => rw [<- step7 k o]; exact f.tear o
    | false => rw [<- step7n k o]; exact f
  · cases o : okActI h (gaOf a) with
    | true => rw [<- stepA k o]; exact f.act o
    | false => rw [<- stepAn k o]; exact f
def playH (h : HouseT) (acts : List HouseActT) : HouseT := acts.foldl stepH h
theorem playH_next {h : HouseT} {acts : List HouseActT} {k : Nat} {y : HouseActT} (hy : acts[k]? = some y) : playH h (acts.take (k + 1)) = stepH (playH h (acts.take k)) y := by
  unfold playH
  rw [List.take_add_one, hy, Option.toList_some, List.foldl_append, List.foldl_cons, List.foldl_nil]
theorem Fine.play {h : HouseT} : ∀ {acts : List HouseActT}, Fine h -> Fine (playH h acts)
  | [], f => f
  | a :: acts, f => Fine.play (h := stepH h a) (acts := acts) f.step
theorem playH_one {h : HouseT} {a : HouseActT} : playH h [a] = stepH h a := rfl
structure Alike (h : HouseT) (g : GroupT) : Prop where
  len : g.Reps.length = h.Group.Reps.length
  term : g.Term = h.Group.Term
  lead : g.Lead = h.Group.Lead
  okr : ∀ y ∈ g.Reps, okRep g.Term y = true
  rep : ∀ (i : Nat) (x : ReplicaT) (d : DiskT), h.Group.Reps[i]? = some x -> h.Disks[i]? = some d -> ∃ y, g.Reps[i]? = some y /\ y.Up = x.Up /\ y.Log = onK d /\ x.Sure <= y.Sure
section
variable {h : HouseT} {g : GroupT}
theorem Alike.at (al : Alike h g) (f : Fine h) (i : Nat) : (h.Group.Reps[i]? = none /\ g.Reps[i]? = none) \/ ∃ x d y, h.Group.Reps[i]? = some x /\ h.Disks[i]? = some d /\ g.Reps[i]? = some y /\ y.Up = x.Up /\ y.Log = onK d /\ x.Sure <= y.Sure := by
  by_cases hi : i < h.Group.Reps.length
  · obtain ⟨x, d, hx, hd⟩ := f.disk hi
    obtain ⟨y, q⟩ := al.rep i x d hx hd
    exact .inr ⟨x, d, y, hx, hd, q⟩
  · exact .inl ⟨List.getElem?_eq_none (by omega), List.getElem?_eq_none (by rw [al.len]; omega)⟩
theorem Alike.upAt (al : Alike h g) (f : Fine h) (r : Int) : Proofs.YtjjjalcmcifncaaGreat.upAt g r = Proofs.YtjjjalcmcifncaaGreat.upAt h.Group r := by
  rcases al.at f r.toNat with ⟨a, b⟩ | ⟨x, d, y, hx, hd, hy, hu, _⟩
  · unfold Proofs.YtjjjalcmcifncaaGreat.upAt; rw [a, b]
  · rw [upAt_of hx, upAt_of hy, hu]
theorem Alike.isRep (al : Alike h g) (r : Int) : Proofs.YtjjjalcmcifncaaGreat.isRep g r = Proofs.YtjjjalcmcifncaaGreat.isRep h.Group r := by unfold Proofs.YtjjjalcmcifncaaGreat.isRep; rw [al.len]
theorem Alike.og (al : Alike h g) (f : Fine h) : okGroup g = true := by
  have o := okG_iff.1 f.oh.g
  refine okG_iff.2 ⟨by rw [al.len]; exact o.many, by rw [al.term]; exact o.term, ?_, al.okr⟩
  have := o.lead
  unfold okLead at this ⊢
  rw [al.lead, al.isRep, al.upAt f]
  exact this
theorem Alike.okUp (al : Alike h g) (f : Fine h) (r : Int) (b : Bool) : Proofs.YtjjjalcmcifncaaGreat.okUp g r b = Proofs.YtjjjalcmcifncaaGreat.okUp h.Group r b := by
  unfold Proofs.YtjjjalcmcifncaaGreat.okUp
  rw [al.og f, f.oh.g, al.isRep, al.upAt f]
theorem Alike.set {k : Nat} {x y : ReplicaT} {d : DiskT} {L : Int} (al : Alike h g) (hk : k < h.Group.Reps.length) (f : Fine h) (o : okRep g.Term y = true) (u : y.Up = x.Up) (l : y.Log = onK d) (s : x.Sure <= y.Sure) :
    Alike ⟨⟨h.Group.Reps.set k x, h.Group.Term, L⟩, h.Disks.set k d⟩ ⟨g.Reps.set k y, g.Term, L⟩ := by
  have hkd : k < h.Disks.length := by rw [f.oh.len]; exact hk
  have hkg : k < g.Reps.length := by rw [al.len]; exact hk
  refine ⟨by show (g.Reps.set k y).length = (h.Group.Reps.set k x).length; rw [List.length_set, List.length_set, al.len], al.term, rfl, fun z hz => ?_, fun i x2 d2 hx hd => ?_⟩
  · rcases List.mem_or_eq_of_mem_set hz with q | rfl
    · exact al.okr z q
    · exact o
  · change (h.Group.Reps.set k x)[i]? = some x2 at hx
    change (h.Disks.set k d)[i]? = some d2 at hd
    show ∃ z, (g.Reps.set k y)[i]? = some z /\ _
    rw [set_at hk] at hx
    rw [set_at hkd] at hd
    rw [set_at hkg]
    by_cases e : i = k
    · rw [if_pos e] at hx hd ⊢
      cases hx; cases hd
      exact ⟨y, rfl, u, l, s⟩
    · rw [if_neg e] at hx hd ⊢
      exact al.rep i x2 d2 hx hd
theorem crash_eq {g : GroupT} {r : Int} {y : ReplicaT} (ho : Proofs.YtjjjalcmcifncaaGreat.okUp g r true = true) (hy : g.Reps[r.toNat]? = some y) : crashR g r = ⟨g.Reps.set r.toNat { y with Up := false }, g.Term, if g.Lead = r then -1 else g.Lead⟩ := by
  rw [crashR, resG_yes ho]; unfold crashN; rw [setRep_of hy]
theorem Alike.crash (al : Alike h g) (f : Fine h) {r : Int} (ho : Proofs.YtjjjalcmcifncaaGreat.okUp h.Group r true = true) : Alike ⟨crashR h.Group r, h.Disks⟩ (crashR g r) := by
  obtain ⟨x, hx, hu, h0, hlt⟩ := okUp_of ho
  obtain ⟨x', d, hx', hd⟩ := f.disk hlt
  rw [hx] at hx'; cases hx'
  obtain ⟨y, hy, yu, yl, ys⟩ := al.rep _ x d hx hd
  have key := al.set (k := r.toNat) (x := { x with Up := false }) (y := { y with Up := false }) (d := d) (L := if h.Group.Lead = r then -1 else h.Group.Lead) hlt f (al.okr y (mgE hy)) rfl yl ys
  rw [set_same hd] at key
  rw [crash_eq ho hx, crash_eq (by rw [al.okUp f]; exact ho) hy, al.lead]
  exact key
theorem Alike.start (al : Alike h g) (f : Fine h) {r : Int} (ho : Proofs.YtjjjalcmcifncaaGreat.okUp h.Group r false = true) : Alike ⟨backG (startR h.Group r) r (dskOf h.Disks r), h.Disks.set r.toNat (mended (dskOf h.Disks r))⟩ (startR g r) := by
  obtain ⟨x, hx, hu, h0, hlt⟩ := okUp_of ho
  obtain ⟨x', d, hx', hd⟩ := f.disk hlt
  rw [hx] at hx'; cases hx'
  obtain ⟨y, hy, yu, yl, ys⟩ := al.rep _ x d hx hd
  rw [dskOf_of hd]
  have hfr : frames (mended d).Kept 0 = frames d.Kept 0 := frames_mend d.Kept
  have hon : onK (mended d) = onK d := by unfold onK; rw [hfr]
  have hs := (okRep_iff.1 (al.okr y (mgE hy))).2.1
  have key := al.set (k := r.toNat) (x := ⟨true, onK d, 0⟩) (y := { y with Up := true }) (d := mended d) (L := h.Group.Lead) hlt f (al.okr y (mgE hy)) rfl (yl.trans hon.symm) hs
  have e : backG (startR h.Group r) r d = ⟨h.Group.Reps.set r.toNat ⟨true, onK d, 0⟩, h.Group.Term, h.Group.Lead⟩ := by
    unfold backG
    rw [startR, resG_yes ho]
    have h1 : (⟨setRep h.Group r fun y => { y with Up := true }, h.Group.Term, h.Group.Lead⟩ : GroupT).Reps[r.toNat]? = some { x with Up := true } := setRep_at hx
    rw [setRep_of h1]
    show (⟨(setRep h.Group r _).set _ _, _, _⟩ : GroupT) = _
    rw [setRep_of hx, List.set_set]
  rw [e, startR_yes (by rw [al.okUp f]; exact ho), setRep_of hy, al.lead]
  exact key
theorem Alike.same (al : Alike h g) (f : Fine h) {i : Nat} {x y : ReplicaT} (hx : h.Group.Reps[i]? = some x) (hy : g.Reps[i]? = some y) (hu : x.Up = true) : y.Log = x.Log := by
  obtain ⟨x', d, hx', hd⟩ := f.disk (List.getElem?_eq_some_iff.1 hx).1
  rw [hx] at hx'; cases hx'
  obtain ⟨y', hy', yu, yl, ys⟩ := al.rep _ x d hx hd
  rw [hy] at hy'; cases hy'
  rw [yl]
  exact ((f.fit hx hd).up hu).1
theorem Alike.most {q q' : ReplicaT -> Bool} (al : Alike h g) (f : Fine h) (hq : ∀ (i : Nat) (x y : ReplicaT), h.Group.Reps[i]? = some x -> g.Reps[i]? = some y -> q' y = q x) : Proofs.YtjjjalcmcifncaaGreat.most g q' = Proofs.YtjjjalcmcifncaaGreat.most h.Group q := by
  unfold Proofs.YtjjjalcmcifncaaGreat.most
  rw [cntR_range, cntR_range, al.len]
  have : (fun i : Nat => match g.Reps[i]? with | some x => q' x | none => false) = (fun i : Nat => match h.Group.Reps[i]? with | some x => q x | none => false) := by
    funext i
    rcases al.at f i with ⟨a, b⟩ | ⟨x, d, y, hx, hd, hy, _⟩
    · rw [a, b]
    · rw [hx, hy]; exact hq i x y hx hy
  exact congrArg (fun p => decide (2 * (List.countP p (List.range h.Group.Reps.length) : Int) > (h.Group.Reps.length : Int))) this
theorem Alike.mostI {q q' : ReplicaT -> Bool} (al : Alike h g) (f : Fine h) (hq : ∀ (i : Nat) (x y : ReplicaT), h.Group.Reps[i]? = some x -> g.Reps[i]? = some y -> q x = true -> q' y = true) (hm : Proofs.YtjjjalcmcifncaaGreat.most h.Group q = true) : Proofs.YtjjjalcmcifncaaGreat.most g q' = true := by
  unfold Proofs.YtjjjalcmcifncaaGreat.most at hm ⊢
  rw [cntR_range] at hm ⊢
  rw [decide_eq_true_eq] at hm ⊢
  rw [al.len]
  have : (List.range h.Group.Reps.length).countP (fun i => match h.Group.Reps[i]? with | some x => q x | none => false) <= (List.range h.Group.Reps.length).countP (fun i => match g.Reps[i]? with | some x => q' x | none => false) := by
    refine List.countP_mono_left fun i _ => ?_
    rcases al.at f i with ⟨a, b⟩ | ⟨x, d, y, hx, hd, hy, _⟩
    · rw [a, b]; exact id
    · rw [hx, hy]; exact hq i x y hx hy
  exact Int.lt_of_lt_of_le hm (Int.mul_le_mul_of_nonneg_left (Int.ofNat_le.2 this) (by decide))
theorem Alike.okElect (al : Alike h g) (f : Fine h) (r : Int) : Proofs.YtjjjalcmcifncaaGreat.okElect g r = Proofs.YtjjjalcmcifncaaGreat.okElect h.Group r := by
  unfold Proofs.YtjjjalcmcifncaaGreat.okElect
  rw [al.okUp f, al.term]
  cases hu : Proofs.YtjjjalcmcifncaaGreat.okUp h.Group r true with
  | false => rfl
  | true =>
    obtain ⟨z, hz, zu, z0, zlt⟩ := okUp_of hu
    obtain ⟨z', hz'⟩ : ∃ z', g.Reps[r.toNat]? = some z' := ⟨_, List.getElem?_eq_getElem (by rw [al.len]; exact zlt)⟩
    rw [al.most f (q := votes h.Group r) (q' := votes g r) fun i x y hx hy => by
      unfold votes
      rw [logAt_of hz, logAt_of hz', al.same f hz hz' zu]
      have u : y.Up = x.Up := by
        rcases al.at f i with ⟨a, b⟩ | ⟨x', d, y', hx', hd, hy', e, _⟩
        · rw [hx] at a; cases a
        · rw [hx] at hx'; rw [hy] at hy'; cases hx'; cases hy'; exact e
      rw [u]
      cases hxu : x.Up with
      | false => rfl
      | true => rw [al.same f hx hy hxu]]
theorem Alike.elect (al : Alike h g) (f : Fine h) {r : Int} (ho : Proofs.YtjjjalcmcifncaaGreat.okElect h.Group r = true) : Alike ⟨electR h.Group r, h.Disks⟩ (electR g r) := by
  have f2 := f.elect ho
  rw [electR_yes ho] at f2 ⊢
  rw [electR_yes (by rw [al.okElect f]; exact ho)]
  have hT : IntKind.i64.wrap (h.Group.Term + 1) = h.Group.Term + 1 := by
    have := (okG_iff.1 f.oh.g).term
    exact i64_wrap (by omega) (by omega)
  refine ⟨al.len, congrArg (fun t => IntKind.i64.wrap (t + 1)) al.term, rfl, fun y hy => ?_, al.rep⟩
  have q := okRep_iff.1 (al.okr y hy)
  refine okRep_iff.2 ⟨q.1.le ?_, q.2⟩
  show g.Term <= IntKind.i64.wrap (g.Term + 1)
  rw [al.term, hT]
  omega
theorem Alike.leadAt (al : Alike h g) (f : Fine h) (h0 : 0 <= h.Group.Lead) : ∃ l d y, h.Group.Reps[h.Group.Lead.toNat]? = some l /\ h.Disks[h.Group.Lead.toNat]? = some d /\ g.Reps[g.Lead.toNat]? = some y /\ l.Up = true /\ y.Up = true /\ y.Log = l.Log /\ onK d = l.Log /\ l.Sure <= y.Sure /\ h.Group.Lead.toNat < h.Group.Reps.length := by
  obtain ⟨l, hl, hlu, hlt⟩ := lead_of (okG_iff.1 f.oh.g).lead h0
  obtain ⟨x', d, hx', hd⟩ := f.disk hlt
  rw [hl] at hx'; cases hx'
  obtain ⟨y, hy, yu, yl, ys⟩ := al.rep _ l d hl hd
  have e := ((f.fit hl hd).up hlu).1
  exact ⟨l, d, y, hl, hd, by rw [al.lead]; exact hy, hlu, yu.trans hlu, yl.trans e, e, ys, hlt⟩
theorem Alike.okPut (al : Alike h g) (f : Fine h) (r : RecT) : Proofs.YtjjjalcmcifncaaGreat.okPut g r = Proofs.YtjjjalcmcifncaaGreat.okPut h.Group r := by
  unfold Proofs.YtjjjalcmcifncaaGreat.okPut
  rw [al.og f, f.oh.g, al.lead]
  by_cases h0 : 0 <= h.Group.Lead
  · obtain ⟨l, d, y, hl, hd, hy, _, _, e, _⟩ := al.leadAt f h0
    have e2 : lenLead g = lenLead h.Group := by
      unfold lenLead
      rw [hl, hy]
      show y.Log.length = l.Log.length
      rw [e]
    rw [e2]
  · rw [decide_eq_false h0]; rfl
theorem put_eq {g : GroupT} {r : RecT} {y : ReplicaT} (ho : Proofs.YtjjjalcmcifncaaGreat.okPut g r = true) (hy : g.Reps[g.Lead.toNat]? = some y) : putR g r = ⟨g.Reps.set g.Lead.toNat (putE g r y), g.Term, g.Lead⟩ := by
  unfold putR
  rw [resG_yes ho]; unfold putN; rw [setRep_of hy]
theorem Alike.put (al : Alike h g) (f : Fine h) {r : RecT} (ho : Proofs.YtjjjalcmcifncaaGreat.okPut h.Group r = true) : Alike (putH h (putR h.Group r)) (putR g r) := by
  obtain ⟨hg, h0, hlen, hr⟩ := put_group ho
  obtain ⟨l, d, y, hl, hd, hy, lu, yu, yl, dl, ys, hlt⟩ := al.leadAt f h0
  have h1 := f.one h0
  have hT := (okG_iff.1 f.oh.g).term
  have hll : l.Log.length < 60 := by
    unfold lenLead at hlen
    rw [hl] at hlen; exact hlen
  have hlog := okRep_iff.1 ((okG_iff.1 f.oh.g).rep l (mgE hl))
  have ylog := okRep_iff.1 (al.okr y (mgE hy))
  have hnew := snoc_log (e := ⟨h.Group.Term, r⟩) hlog.1 hll hr rfl h1
  obtain ⟨hkf, hko⟩ := kept_fit (u := h.Group.Term) (x := putE h.Group r l) hnew hT.2 rfl
  have key := al.set (k := h.Group.Lead.toNat) (x := putE h.Group r l) (y := putE g r y) (d := ⟨keptB (l.Log ++ [⟨h.Group.Term, r⟩]), []⟩) (L := h.Group.Lead) hlt f (okRep_iff.2 ⟨by
    show LogOk (y.Log ++ [_]) _
    rw [yl, al.term]; exact hnew, ylog.2.1, by
    show y.Sure <= ((y.Log ++ [_]).length : Int)
    rw [laT]
    have := ylog.2.2
    omega⟩) (yu.trans lu.symm) (by
    show y.Log ++ [(⟨g.Term, r⟩ : EntryT)] = _
    rw [hko, yl, al.term]) ys
  have e2 : logOf (⟨h.Group.Reps.set h.Group.Lead.toNat (putE h.Group r l), h.Group.Term, h.Group.Lead⟩ : GroupT) h.Group.Lead = l.Log ++ [⟨h.Group.Term, r⟩] :=
    logOf_of (y := putE h.Group r l) (by show (h.Group.Reps.set _ _)[_]? = _; rw [set_at hlt, if_pos rfl])
  rw [put_eq ho hl, put_eq (by rw [al.okPut f]; exact ho) hy]
  unfold putH
  rw [show (⟨h.Group.Reps.set h.Group.Lead.toNat (putE h.Group r l), h.Group.Term, h.Group.Lead⟩ : GroupT).Lead = h.Group.Lead from rfl, e2, al.lead]
  exact key
theorem Alike.okCopy (al : Alike h g) (f : Fine h) (r : Int) : Proofs.YtjjjalcmcifncaaGreat.okCopy g r = Proofs.YtjjjalcmcifncaaGreat.okCopy h.Group r := by
  unfold Proofs.YtjjjalcmcifncaaGreat.okCopy
  rw [al.okUp f, al.lead]
theorem mn_mono {a b a' b' c : Int} (h1 : a <= a') (h2 : b <= b') : mn (mx a b) c <= mn (mx a' b') c := by
  unfold mn mx
  (repeat' split) <;> omega
theorem Alike.copy (al : Alike h g) (f : Fine h) {r : Int} (ho : Proofs.YtjjjalcmcifncaaGreat.okCopy h.Group r = true) : Alike (copyH h (copyR h.Group r) r) (copyR g r) := by
  have ho' := ho
  have hog := (al.okCopy f r).trans ho
  unfold Proofs.YtjjjalcmcifncaaGreat.okCopy at ho
  simp only [baT, Bool.not_eq_true', decide_eq_false_iff_not] at ho
  obtain ⟨hup, hL, hrl⟩ := ho
  obtain ⟨x, hx, hu, hr0, hrt⟩ := okUp_of hup
  obtain ⟨x', dx, hx', hdx⟩ := f.disk hrt
  rw [hx] at hx'; cases hx'
  obtain ⟨z, hz, zu, zl, zs⟩ := al.rep _ x dx hx hdx
  obtain ⟨l, d, y, hl, hd, hy, lu, yu, yl, dl, ys, hlt⟩ := al.leadAt f (by omega)
  have hT := (okG_iff.1 f.oh.g).term
  have hllog := okRep_iff.1 ((okG_iff.1 f.oh.g).rep l (mgE hl))
  have ylog := okRep_iff.1 (al.okr y (mgE hy))
  have zlog := okRep_iff.1 (al.okr z (mgE hz))
  have hcf : copyF h.Group x = ⟨true, l.Log, mn (mx l.Sure x.Sure) (l.Log.length : Int)⟩ := by unfold copyF; rw [logOf_of hl, sureOf_of hl]
  have hcg : copyF g z = ⟨true, l.Log, mn (mx y.Sure z.Sure) (l.Log.length : Int)⟩ := by unfold copyF; rw [logOf_of hy, sureOf_of hy, yl]
  obtain ⟨hkf, hko⟩ := kept_fit (u := h.Group.Term) (x := copyF h.Group x) hllog.1 hT.2 (by rw [hcf])
  obtain ⟨m1, m2, m3⟩ := mn_mx (a := y.Sure) (b := z.Sure) (c := (l.Log.length : Int))
  have key := al.set (k := r.toNat) (x := copyF h.Group x) (y := copyF g z) (d := ⟨keptB l.Log, []⟩) (L := h.Group.Lead) hrt f (okRep_iff.2 (by
    rw [hcg, al.term]
    exact ⟨hllog.1, m3 ylog.2.1 zlog.2.1 (Int.natCast_nonneg _), m2⟩)) (by rw [hcf, hcg]) (by rw [hcg, hko]) (by rw [hcf, hcg]; exact mn_mono ys zs)
  have e : copyR h.Group r = ⟨h.Group.Reps.set r.toNat (copyF h.Group x), h.Group.Term, h.Group.Lead⟩ := by rw [copyR_yes ho', setRep_of hx]
  have e3 : copyR g r = ⟨g.Reps.set r.toNat (copyF g z), g.Term, g.Lead⟩ := by rw [copyR_yes hog, setRep_of hz]
  have e2 : logOf (⟨h.Group.Reps.set r.toNat (copyF h.Group x), h.Group.Term, h.Group.Lead⟩ : GroupT) r = l.Log := by
    rw [logOf_of (y := copyF h.Group x) (by show (h.Group.Reps.set _ _)[_]? = _; rw [set_at hrt, if_pos rfl]), hcf]
  rw [e, e3, al.lead]
  unfold copyH
  rw [e2]
  exact key
theorem adv_le {g : GroupT} {l : ReplicaT} (h0 : 0 <= l.Sure) : ∀ m : Nat, l.Sure <= adv g l m /\ adv g l m <= max l.Sure (m : Int)
  | 0 => ⟨Int.le_refl _, by show l.Sure <= _; omega⟩
  | m + 1 => by
    have ih := adv_le (g := g) (l := l) h0 m
    unfold adv
    by_cases h1 : ((m + 1 : Nat) : Int) > l.Sure
    · rw [if_pos h1]
      by_cases h2 : hit g l (m + 1) = true
      · rw [if_pos h2]; omega
      · rw [if_neg h2]; omega
    · rw [if_neg h1]; omega
theorem adv_mono {g g' : GroupT} {l l' : ReplicaT} (h0 : 0 <= l.Sure) (h1 : l.Sure <= l'.Sure) (hh : ∀ m, hit g l m = true -> hit g' l' m = true) : ∀ m : Nat, adv g l m <= adv g' l' m
  | 0 => h1
  | m + 1 => by
    have ih := adv_mono h0 h1 hh m
    have b := adv_le (g := g) (l := l) h0 m
    have b2 := adv_le (g := g) (l := l) h0 (m + 1)
    have c := adv_le (g := g') (l := l') (by omega) (m + 1)
    by_cases k : ((m + 1 : Nat) : Int) > l'.Sure
    · by_cases h2 : hit g' l' (m + 1) = true
      · have : adv g' l' (m + 1) = ((m + 1 : Nat) : Int) := by unfold adv; rw [if_pos k, if_pos h2]
        omega
      · have e1 : adv g' l' (m + 1) = adv g' l' m := by conv => lhs; unfold adv
                                                        rw [if_pos k, if_neg h2]
        have e2 : adv g l (m + 1) = adv g l m := by
          conv => lhs; unfold adv
          rw [if_pos (by omega), if_neg (fun e => h2 (hh _ e))]
        omega
    · omega
theorem Alike.adv (al : Alike h g) (f : Fine h) (ho : okAdv h.Group = true) : Alike ⟨advR h.Group, h.Disks⟩ (advR g) /\ okAdv g = true := by
  have ho' := ho
  unfold okAdv at ho
  simp only [baT, Bool.not_eq_true', decide_eq_false_iff_not] at ho
  have hog : okAdv g = true := by
    unfold okAdv
    rw [al.og f, al.lead, decide_eq_false ho.2]; rfl
  obtain ⟨l, d, y, hl, hd, hy, lu, yu, yl, dl, ys, hlt⟩ := al.leadAt f (by omega)
  have hllog := okRep_iff.1 ((okG_iff.1 f.oh.g).rep l (mgE hl))
  have ylog := okRep_iff.1 (al.okr y (mgE hy))
  have hs : advS h.Group <= advS g := by
    rw [advS_of hl, advS_of hy, yl]
    refine adv_mono hllog.2.1 ys (fun m hm => ?_) _
    unfold hit at hm ⊢
    rw [baT] at hm ⊢
    refine ⟨by rw [yl, al.term]; exact hm.1, al.mostI f (fun i x z hx hz hp => ?_) hm.2⟩
    rw [yl]
    obtain ⟨x', dx, hx', hdx⟩ := f.disk (List.getElem?_eq_some_iff.1 hx).1
    rw [hx] at hx'; cases hx'
    obtain ⟨z', hz', _, zl, _⟩ := al.rep _ x dx hx hdx
    rw [hz] at hz'; cases hz'
    rw [preE_iff] at hp ⊢
    rw [zl]
    exact hp.trans (f.fit hx hdx).pre
  have hb := adv_le (g := g) (l := y) ylog.2.1 y.Log.length
  rw [<- advS_of hy] at hb
  have hy2 := ylog.2
  have key := al.set (k := h.Group.Lead.toNat) (x := { l with Sure := advS h.Group }) (y := { y with Sure := advS g }) (d := d) (L := h.Group.Lead) hlt f (okRep_iff.2 ⟨ylog.1, by show 0 <= advS g; omega, by show advS g <= (y.Log.length : Int); omega⟩) (yu.trans lu.symm) (yl.trans dl.symm) hs
  rw [set_same hd] at key
  rw [advR_yes ho', setRep_of hl, advR_yes hog, setRep_of hy, al.lead]
  exact ⟨key, hog⟩
theorem Alike.okAdv (al : Alike h g) (f : Fine h) : Proofs.YtjjjalcmcifncaaGreat.okAdv g = Proofs.YtjjjalcmcifncaaGreat.okAdv h.Group := by
  unfold Proofs.YtjjjalcmcifncaaGreat.okAdv
  rw [al.og f, f.oh.g, al.lead]
theorem Alike.okAct (al : Alike h g) (f : Fine h) (a : GroupActT) : Proofs.YtjjjalcmcifncaaGreat.okAct g a = Proofs.YtjjjalcmcifncaaGreat.okAct h.Group a := by
  by_cases k1 : a.Kind = 1
  · rw [(act1 k1).2, (act1 k1).2, al.okUp f]
  by_cases k2 : a.Kind = 2
  · rw [(act2 k2).2, (act2 k2).2, al.okUp f]
  by_cases k3 : a.Kind = 3
  · rw [(act3 k3).2, (act3 k3).2, al.okElect f]
  by_cases k4 : a.Kind = 4
  · rw [(act4 k4).2, (act4 k4).2, al.okPut f]
  by_cases k5 : a.Kind = 5
  · rw [(act5 k5).2, (act5 k5).2, al.okCopy f]
  by_cases k6 : a.Kind = 6
  · rw [(act6 k6).2, (act6 k6).2, al.okAdv f]
  rw [(act0 k1 k2 k3 k4 k5 k6).2, (act0 k1 k2 k3 k4 k5 k6).2]
theorem Alike.okActI (al : Alike h g) (f : Fine h) (a : GroupActT) : Proofs.YtjjjalcmcifncaaGreat.okActI h a = Proofs.YtjjjalcmcifncaaGreat.okAct h.Group a := by
  unfold Proofs.YtjjjalcmcifncaaGreat.okActI okBack
  cases ho : Proofs.YtjjjalcmcifncaaGreat.okAct h.Group a with
  | false => rfl
  | true =>
    by_cases k2 : a.Kind = 2
    · have h3 : Proofs.YtjjjalcmcifncaaGreat.okUp h.Group a.Rep false = true := by rw [<- (act2 k2).2]; exact ho
      obtain ⟨x, hx, hu, h0, hlt⟩ := okUp_of h3
      obtain ⟨x', d, hx', hd⟩ := f.disk hlt
      rw [hx] at hx'; cases hx'
      obtain ⟨y, hy, yu, yl, ys⟩ := al.rep _ x d hx hd
      have := (okRep_iff.1 (al.okr y (mgE hy))).1
      rw [yl, al.term] at this
      rw [dskOf_of hd, (act2 k2).1, startR, resG_yes h3, okLog_iff.2 this]
      simp
    · rw [decide_eq_false k2]; rfl
theorem Alike.act (al : Alike h g) (f : Fine h) {a : GroupActT} (ho : Proofs.YtjjjalcmcifncaaGreat.okAct h.Group a = true) : Alike (actI h a) (actG g a) := by
  unfold actI
  rw [resH_yes ((al.okActI f a).trans ho)]
  unfold actH
  by_cases k4 : a.Kind = 4
  · rw [if_pos k4, (act4 k4).1, (act4 k4).1]
    exact al.put f (by rw [<- (act4 k4).2]; exact ho)
  rw [if_neg k4]
  by_cases k5 : a.Kind = 5
  · rw [if_pos k5, (act5 k5).1, (act5 k5).1]
    exact al.copy f (by rw [<- (act5 k5).2]; exact ho)
  rw [if_neg k5]
  by_cases k2 : a.Kind = 2
  · rw [if_pos k2, (act2 k2).1, (act2 k2).1]
    exact al.start f (by rw [<- (act2 k2).2]; exact ho)
  rw [if_neg k2]
  by_cases k1 : a.Kind = 1
  · rw [(act1 k1).1, (act1 k1).1]; exact al.crash f (by rw [<- (act1 k1).2]; exact ho)
  by_cases k3 : a.Kind = 3
  · rw [(act3 k3).1, (act3 k3).1]; exact al.elect f (by rw [<- (act3 k3).2]; exact ho)
  by_cases k6 : a.Kind = 6
  · rw [(act6 k6).1, (act6 k6).1]; exact (al.adv f (by rw [<- (act6 k6).2]; exact ho)).1
  rw [(act0 k1 k2 k3 k4 k5 k6).2] at ho
  cases ho
theorem tear_on (f : Fine h) {r : RecT} {k : Int} {torn : Bool} (ho : okTearI h r k = true) {l : ReplicaT} {d : DiskT} (hl : h.Group.Reps[h.Group.Lead.toNat]? = some l) (hd : h.Disks[h.Group.Lead.toNat]? = some d) (lu : l.Up = true) :
    onK (tearD h r k torn) = if k = ((tearB h r).length : Int) /\ torn = false then l.Log ++ [newE h.Group r] else l.Log := by
  unfold okTearI at ho
  rw [baT] at ho
  obtain ⟨hp, hk⟩ := ho
  have hk := inB_le' hk
  obtain ⟨hg, h0, hlen, hr⟩ := put_group hp
  have hT := (okG_iff.1 f.oh.g).term
  obtain ⟨hon, hend⟩ := (f.fit hl hd).up lu
  have hge : goodE (newE h.Group r) := ⟨hr, f.one h0, hT.2⟩
  have h7 := entB_700 hge
  have hout := outE_at (e := newE h.Group r) hr (f.one h0) hT.2
  have etb : tearB h r = frB (entB (newE h.Group r)) := rfl
  have hkn : k.toNat <= (frB (entB (newE h.Group r))).length := by
    rw [etb] at hk
    omega
  obtain ⟨fa, fb⟩ := torn_frames (X := []) (torn := torn) hend h7 hkn
  have htd : tearD h r k torn = ⟨d.Kept ++ tornB (frB (entB (newE h.Group r))) k.toNat torn, []⟩ := by unfold tearD; rw [dskOf_of hd]; rfl
  by_cases hc : k = ((tearB h r).length : Int) /\ torn = false
  · rw [if_pos hc]
    have hfr := fa ⟨by rw [<- etb]; omega, hc.2⟩
    unfold onK
    rw [htd]
    show (frames (d.Kept ++ _) 0).1.map outE = _
    rw [hfr, List.map_append]
    show onK d ++ [outE _] = _
    rw [hon, hout.2]
  · rw [if_neg hc]
    have hfr := fb (fun e => hc ⟨by rw [<- etb] at e; omega, e.2⟩)
    unfold onK
    rw [htd]
    show (frames (d.Kept ++ _) 0).1.map outE = _
    rw [hfr]
    exact hon
def caG (g : GroupT) : GroupActT := ⟨1, g.Lead, ⟨0, 0, 0, 0, [], [], false⟩⟩
def paG (r : RecT) : GroupActT := ⟨4, 0, r⟩
def actsS (g : GroupT) (a : HouseActT) (n : Nat) : List GroupActT :=
  if a.Kind = 7 then (if Proofs.YtjjjalcmcifncaaGreat.okPut g a.Rec = true /\ a.Keep <= (n : Int) then (if a.Keep = (n : Int) /\ a.Torn = false then [paG a.Rec, caG g] else [caG g]) else []) else [gaOf a]
theorem Alike.next (al : Alike h g) (f : Fine h) (a : HouseActT) (hk : 0 <= a.Keep) : Alike (stepH h a) (playG g (actsS g a (frB (entB ⟨g.Term, a.Rec⟩)).length)) := by
  unfold actsS
  by_cases k : a.Kind = 7
  · rw [if_pos k]
    have en : frB (entB ⟨g.Term, a.Rec⟩) = tearB h a.Rec := by rw [al.term]; rfl
    rw [en, al.okPut f]
    by_cases ho : Proofs.YtjjjalcmcifncaaGreat.okPut h.Group a.Rec = true /\ a.Keep <= ((tearB h a.Rec).length : Int)
    · rw [if_pos ho]
      have hot : okTearI h a.Rec a.Keep = true := by
        unfold okTearI inB
        rw [ho.1, decide_eq_true hk, decide_eq_true ho.2]; rfl
      rw [<- step7 k hot]
      obtain ⟨hg, h0, hlen, hr⟩ := put_group ho.1
      obtain ⟨l, d, y, hl, hd, hy, lu, yu, yl, dl, ys, hlt⟩ := al.leadAt f h0
      have hup : Proofs.YtjjjalcmcifncaaGreat.okUp h.Group h.Group.Lead true = true := lead_up hg h0
      have hupg : Proofs.YtjjjalcmcifncaaGreat.okUp g g.Lead true = true := by rw [al.okUp f, al.lead]; exact hup
      have hon := tear_on (torn := a.Torn) f hot hl hd lu
      have ylog := okRep_iff.1 (al.okr y (mgE hy))
      have hll : l.Log.length < 60 := by
        unfold lenLead at hlen
        rw [hl] at hlen; exact hlen
      unfold tearI
      rw [resH_yes hot]
      unfold tearH
      rw [crash_eq hup hl, if_pos rfl]
      by_cases hc : a.Keep = ((tearB h a.Rec).length : Int) /\ a.Torn = false
      · rw [if_pos hc] at hon ⊢
        have hpg : Proofs.YtjjjalcmcifncaaGreat.okPut g a.Rec = true := by rw [al.okPut f]; exact ho.1
        have hog := al.og f
        have e1 : stepG g (paG a.Rec) = ⟨g.Reps.set g.Lead.toNat (putE g a.Rec y), g.Term, g.Lead⟩ := by
          rw [stepG_yes (by rw [(act4 rfl).2]; exact hpg), (act4 rfl).1]
          exact put_eq hpg hy
        have hyl : g.Reps.length = h.Group.Reps.length := al.len
        have hglt : g.Lead.toNat < g.Reps.length := by rw [al.lead, al.len]; exact hlt
        have hput : okGroup ⟨g.Reps.set g.Lead.toNat (putE g a.Rec y), g.Term, g.Lead⟩ = true := by
          have a2 := al.put f ho.1
          have f2 := f.put ho.1
          have := a2.og f2
          rw [put_eq hpg hy] at this
          exact this
        have e2 : stepG ⟨g.Reps.set g.Lead.toNat (putE g a.Rec y), g.Term, g.Lead⟩ (caG g) = ⟨g.Reps.set g.Lead.toNat { putE g a.Rec y with Up := false }, g.Term, -1⟩ := by
          have hat : (⟨g.Reps.set g.Lead.toNat (putE g a.Rec y), g.Term, g.Lead⟩ : GroupT).Reps[g.Lead.toNat]? = some (putE g a.Rec y) := by
            show (g.Reps.set _ _)[_]? = _
            rw [set_at hglt, if_pos rfl]
          have hu2 : Proofs.YtjjjalcmcifncaaGreat.okUp ⟨g.Reps.set g.Lead.toNat (putE g a.Rec y), g.Term, g.Lead⟩ g.Lead true = true := lead_up hput (by show 0 <= g.Lead; rw [al.lead]; exact h0)
          rw [stepG_yes (by rw [(act1 rfl).2]; exact hu2), (act1 rfl).1]
          rw [show (caG g).Rep = g.Lead from rfl, crash_eq hu2 hat]
          show (⟨(g.Reps.set _ _).set _ _, g.Term, _⟩ : GroupT) = _
          rw [List.set_set, if_pos rfl]
        show Alike _ (stepG (stepG g (paG a.Rec)) (caG g))
        rw [e1, e2, al.lead]
        refine al.set (k := h.Group.Lead.toNat) hlt f (okRep_iff.2 ⟨?_, ylog.2.1, ?_⟩) rfl ?_ ys
        · show LogOk (y.Log ++ [_]) _
          refine snoc_log ylog.1 (by rw [yl]; exact hll) hr rfl ?_
          rw [al.term]; exact f.one h0
        · show y.Sure <= ((y.Log ++ [_]).length : Int)
          rw [laT]
          have := ylog.2.2
          omega
        · show y.Log ++ [(⟨g.Term, a.Rec⟩ : EntryT)] = _
          rw [hon, yl, al.term]; rfl
      · rw [if_neg hc] at hon ⊢
        have e1 : stepG g (caG g) = ⟨g.Reps.set g.Lead.toNat { y with Up := false }, g.Term, -1⟩ := by
          rw [stepG_yes (by rw [(act1 rfl).2]; exact hupg), (act1 rfl).1, show (caG g).Rep = g.Lead from rfl, crash_eq hupg hy, if_pos rfl]
        show Alike _ (stepG g (caG g))
        rw [e1, al.lead]
        exact al.set (k := h.Group.Lead.toNat) hlt f (okRep_iff.2 ylog) rfl (yl.trans hon.symm) ys
    · rw [if_neg ho]
      have hot : okTearI h a.Rec a.Keep = false := by
        cases e : okTearI h a.Rec a.Keep with
        | false => rfl
        | true =>
          unfold okTearI at e
          rw [baT] at e
          exact absurd ⟨e.1, (inB_le' e.2).2⟩ ho
      rw [<- step7n k hot]
      exact al
  · rw [if_neg k]
    show Alike _ (stepG g (gaOf a))
    have e := al.okActI f (gaOf a)
    cases ho : Proofs.YtjjjalcmcifncaaGreat.okAct h.Group (gaOf a) with
    | false =>
      rw [<- stepAn k (e.trans ho), stepG_no (by rw [al.okAct f]; exact ho)]
      exact al
    | true =>
      rw [<- stepA k (e.trans ho), stepG_yes (by rw [al.okAct f]; exact ho)]
      exact al.act f ho
end
def okPlayG (g : GroupT) (acts : List GroupActT) : Bool := okGroup g && decide (acts.length <= 200)
def playR (g : GroupT) (acts : List GroupActT) : GroupT := resG (okPlayG g acts) (playG g acts)
theorem playR_yes {g : GroupT} {acts : List GroupActT} (h1 : okGroup g = true) (h2 : ¬ (acts.length : Int) > 200) : okPlayG g acts = true /\ playR g acts = playG g (acts.take acts.length) := by
  have e : okPlayG g acts = true := by unfold okPlayG; rw [h1, decide_eq_true (by omega)]; rfl
  exact ⟨e, by rw [playR, resG_yes e, List.take_length]⟩
theorem playR_no {g : GroupT} {acts : List GroupActT} (h : okGroup g = false \/ (acts.length : Int) > 200) : okPlayG g acts = false /\ playR g acts = ⟨[], 0, 0⟩ := by
  have e : okPlayG g acts = false := by
    unfold okPlayG
    rcases h with h | h
    · rw [h]; rfl
    · rw [decide_eq_false (by omega)]; simp
  exact ⟨e, by rw [playR, resG_no e]; rfl⟩
theorem take_at {α β : Type} {f : List α -> β} {xs : List α} {k : Nat} (h : k <= xs.length) (h2 : ¬ (k : Int) < xs.length) : f (xs.take k) = f (xs.take xs.length) := by
  have : k = xs.length := by omega
  rw [this]
theorem c_spec_PlayGroup (g : GroupT) (acts : List GroupActT) (hok : g.ok) (ha : okL GroupActT.ok acts) (hw : g.w + wL GroupActT.w acts <= 1048576) : PC Tryz.prog true 19 [.agg g.cells, .sl (acts.map GroupActT.cells)] (.tup [.agg (playR g acts).cells, .bool (okPlayG g acts)]) [] := by
  have hb : GB g := gb_of (by omega)
  have hal : acts.length <= 1048576 := by have := wL_len (w := GroupActT.w) (xs := acts); omega
  have hv : okGroup g = true -> ∀ k, k <= acts.length -> (playG g (acts.take k)).ok /\ GB (playG g (acts.take k)) := fun hg k hk => by
    have q := PG.play (PG.of hok hg (Nat.le_refl _)) ha hw k hk
    have := wL_take (w := GroupActT.w) (xs := acts) (k := k)
    exact ⟨q.ok, q.gb (by omega)⟩
  have hy' : ∀ {k : Nat} {y : GroupActT}, acts[k]? = some y -> y.ok /\ y.w <= 1048576 := fun h => ⟨ha.2 _ (mgE h), by have := (wL_mem (w := GroupActT.w) (mgE h)).2; omega⟩
  refine pc_at Tryz.func19 rfl (by kernel_rfl) 39 [.cell 4 27, .tmp 5] rfl rfl ?_
  repeat' (conv => whnf); first
 | (refine ix_as (f := GroupActT.cells) (m := k) rfl (by omega) (fun y hy => ?_))
 | (refine nameB_cases (b := okGroup g) (fun h => ?_) (fun h => ?_))
 | (refine nameB_cases (b := okAct (playG g (acts.take k)) y) (fun h => ?_) (fun h => ?_))
 | refine nameB_true ?_
 | refine nameB_false ?_
 | (refine nameB_dec (fun h => ?_) (fun h => ?_) <;> try simp only [lensB] at h)
 | refine splitB_true ?_
 | refine splitB_false ?_
 | refine draw_text (by kernel_rfl) (by kernel_rfl) (by kernel_rfl) ?_
 | ((refine Loop_frz [12304] ?_; refine Loop_at [1, 4, 6] [16] (Nat) (fun k => k <= acts.length) (fun k => [(7, .int .i64 (k : Nat))]) (fun k => [(12320, ⟨true, 27, 3, [(playG g (acts.take k)).cells]⟩)]) (fun k => acts.length - k) 0 ⟨by first | (simp_all <;> fail) | rfl | fail, trivial⟩ ⟨by first | rfl | first | exact congrArg (fun v : GroupT => some (AObj.mk (.box) 27 3 [v.cells])) (playG_yes hy ‹_›) | exact congrArg (fun v : GroupT => some (AObj.mk (.box) 27 3 [v.cells])) (playG_no hy ‹_›) | fail | fail, trivial⟩ (by (try dsimp only); first | (exact Nat.zero_le _) | fail) ?_; (conv => whnf); refine side_and (side_of (by first | exact fun k => rfl | exact fun k => by simp [headOk, closedE, closedO, closedL, AV.closed, hcap.closed, hasId, AObj.box, BK.ofB])) ?_; rintro k hT; try dsimp only at hT))
 | (refine Again_of (k + 1) ⟨by first | rfl | exact i64_next (by omega) | (simp_all <;> fail) | fail, trivial⟩ ⟨by first | rfl | first | exact congrArg (fun v : GroupT => some (AObj.mk (.box) 27 3 [v.cells])) (playG_yes hy ‹_›) | exact congrArg (fun v : GroupT => some (AObj.mk (.box) 27 3 [v.cells])) (playG_no hy ‹_›) | fail | fail, trivial⟩ (by first | (and_intros <;> first | rfl | trivial) | fail) (by first | (and_intros <;> first | rfl | trivial) | fail) rfl rfl rfl (by (try dsimp only); first | ((show k + 1 <= _; omega)) | fail) (show _ < _ by (try dsimp only); omega))
 | refine Call0 (c_spec_GoodGroup g hok hb) rfl rfl ?_
 | refine CallT (c_spec_l9Own g hb) rfl rfl rfl rfl (nbT rfl) ?_
 | refine CallDT (c_spec_l9Do (playG g (acts.take k)) y (hv ‹_› k hT).1 (hv ‹_› k hT).2 (hy' hy).1 (hy' hy).2) rfl rfl rfl ⟨rfl, rfl⟩ ?_
 | refine sdA ⟨nbT rfl, rfl⟩ ?_
 | refine sdA (by first | exact nbT rfl | exact rfl | omega | fail) ?_
 | refine sdA (by first | (and_intros <;> first | rfl | omega | exact nbT rfl) | fail) ?_
 | refine LoadK_of rfl rfl ?_
 | fail
  all_goals
    conv => whnf
    first
    | (exfalso; omega)
    | (obtain ⟨e1, e2⟩ := playR_yes ‹_› ‹_›; rw [e1, e2]; refine OutA_plain rfl rfl ?_; exact take_at (f := fun l : List GroupActT => AV.tup [.agg (playG g l).cells, .bool true]) hT ‹_›)
    | (obtain ⟨e1, e2⟩ := playR_no (g := g) (acts := acts) (by first | exact .inl ‹_› | exact .inr ‹_›); rw [e1, e2]; refine OutA_nilB 16 1 60 3 0 rfl rfl rfl (by decide) ?_; refine OutA_frz [1] ?_; (conv => whnf); exact OutA_plain rfl rfl rfl)
theorem c_impl_PlayGroup (g : GroupT) (acts : List GroupActT) (hok : g.ok) (ha : okL GroupActT.ok acts) (hw : g.w + wL GroupActT.w acts <= 1048576) : PC Tryz.prog false 18 [.agg g.cells, .sl (acts.map GroupActT.cells)] (.tup [.agg [.own 0, .int .i64 (playR g acts).Term, .int .i64 (playR g acts).Lead], .bool (okPlayG g acts)]) [⟨.deep ReplicaT.shp, 60, 3, (playR g acts).Reps.map ReplicaT.cells⟩] := by
  have hb : GB g := gb_of (by omega)
  have hal : acts.length <= 1048576 := by have := wL_len (w := GroupActT.w) (xs := acts); omega
  have hv : okGroup g = true -> ∀ k, k <= acts.length -> (playG g (acts.take k)).ok /\ GB (playG g (acts.take k)) := fun hg k hk => by
    have q := PG.play (PG.of hok hg (Nat.le_refl _)) ha hw k hk
    have := wL_take (w := GroupActT.w) (xs := acts) (k := k)
    exact ⟨q.ok, q.gb (by omega)⟩
  have hy' : ∀ {k : Nat} {y : GroupActT}, acts[k]? = some y -> y.ok /\ y.w <= 1048576 := fun h => ⟨ha.2 _ (mgE h), by have := (wL_mem (w := GroupActT.w) (mgE h)).2; omega⟩
  refine pc_at Tryz.func18 rfl (by kernel_rfl) 38 [.cell 4 27, .tmp 5] rfl rfl ?_
  repeat' (conv => whnf); first
 | (refine ix_as (f := GroupActT.cells) (m := k) rfl (by omega) (fun y hy => ?_))
 | (refine nameB_cases (b := okGroup g) (fun h => ?_) (fun h => ?_))
 | (refine nameB_cases (b := okAct (playG g (acts.take k)) y) (fun h => ?_) (fun h => ?_))
 | refine nameB_true ?_
 | refine nameB_false ?_
 | (refine nameB_dec (fun h => ?_) (fun h => ?_) <;> try simp only [lensB] at h)
 | refine splitB_true ?_
 | refine splitB_false ?_
 | ((refine Loop_at [4, 6, 22, 23] [0, 16] (Nat) (fun k => k <= acts.length) (fun k => [(24, .int .i64 (k : Nat))]) (fun k => [(12320, ⟨true, 27, 3, [[.own 12304, .int .i64 (playG g (acts.take k)).Term, .int .i64 (playG g (acts.take k)).Lead]]⟩), (12304, ⟨.deep ReplicaT.shp, 60, 3, (playG g (acts.take k)).Reps.map ReplicaT.cells⟩)]) (fun k => acts.length - k) 0 ⟨by first | (simp_all <;> fail) | rfl | fail, trivial⟩ ⟨by first | rfl | first | rfl | exact congrArg (fun v : GroupT => some (AObj.mk (.box) 27 3 [[.own 12304, .int .i64 v.Term, .int .i64 v.Lead]])) (playG_yes hy ‹_›) | exact congrArg (fun v : GroupT => some (AObj.mk (.box) 27 3 [[.own 12304, .int .i64 v.Term, .int .i64 v.Lead]])) (playG_no hy ‹_›) | exact congrArg (fun v : GroupT => some (AObj.mk (.deep ReplicaT.shp) 60 3 (v.Reps.map ReplicaT.cells))) (playG_yes hy ‹_›) | exact congrArg (fun v : GroupT => some (AObj.mk (.deep ReplicaT.shp) 60 3 (v.Reps.map ReplicaT.cells))) (playG_no hy ‹_›) | fail | fail, by first | rfl | first | rfl | exact congrArg (fun v : GroupT => some (AObj.mk (.box) 27 3 [[.own 12304, .int .i64 v.Term, .int .i64 v.Lead]])) (playG_yes hy ‹_›) | exact congrArg (fun v : GroupT => some (AObj.mk (.box) 27 3 [[.own 12304, .int .i64 v.Term, .int .i64 v.Lead]])) (playG_no hy ‹_›) | exact congrArg (fun v : GroupT => some (AObj.mk (.deep ReplicaT.shp) 60 3 (v.Reps.map ReplicaT.cells))) (playG_yes hy ‹_›) | exact congrArg (fun v : GroupT => some (AObj.mk (.deep ReplicaT.shp) 60 3 (v.Reps.map ReplicaT.cells))) (playG_no hy ‹_›) | fail | fail, trivial⟩ (by (try dsimp only); first | (exact Nat.zero_le _) | fail) ?_; (conv => whnf); refine side_and (side_of (by first | exact fun k => rfl | exact fun k => by simp [headOk, closedE, closedO, closedL, AV.closed, hcap.closed, hasId, AObj.box, BK.ofB])) ?_; rintro k hT; try dsimp only at hT))
 | refine Again_ren 28704 12304 (by decide) rfl ?_; (conv => whnf); refine Again_of (k + 1) ⟨by first | rfl | exact i64_next (by omega) | (simp_all <;> fail) | fail, trivial⟩ ⟨by first | rfl | first | rfl | exact congrArg (fun v : GroupT => some (AObj.mk (.box) 27 3 [[.own 12304, .int .i64 v.Term, .int .i64 v.Lead]])) (playG_yes hy ‹_›) | exact congrArg (fun v : GroupT => some (AObj.mk (.box) 27 3 [[.own 12304, .int .i64 v.Term, .int .i64 v.Lead]])) (playG_no hy ‹_›) | exact congrArg (fun v : GroupT => some (AObj.mk (.deep ReplicaT.shp) 60 3 (v.Reps.map ReplicaT.cells))) (playG_yes hy ‹_›) | exact congrArg (fun v : GroupT => some (AObj.mk (.deep ReplicaT.shp) 60 3 (v.Reps.map ReplicaT.cells))) (playG_no hy ‹_›) | fail | fail, by first | rfl | first | rfl | exact congrArg (fun v : GroupT => some (AObj.mk (.box) 27 3 [[.own 12304, .int .i64 v.Term, .int .i64 v.Lead]])) (playG_yes hy ‹_›) | exact congrArg (fun v : GroupT => some (AObj.mk (.box) 27 3 [[.own 12304, .int .i64 v.Term, .int .i64 v.Lead]])) (playG_no hy ‹_›) | exact congrArg (fun v : GroupT => some (AObj.mk (.deep ReplicaT.shp) 60 3 (v.Reps.map ReplicaT.cells))) (playG_yes hy ‹_›) | exact congrArg (fun v : GroupT => some (AObj.mk (.deep ReplicaT.shp) 60 3 (v.Reps.map ReplicaT.cells))) (playG_no hy ‹_›) | fail | fail, trivial⟩ (by first | (and_intros <;> first | rfl | trivial) | fail) (by first | (and_intros <;> first | rfl | trivial) | fail) rfl rfl rfl (by (try dsimp only); first | ((show k + 1 <= _; omega)) | fail) (show _ < _ by (try dsimp only); omega)
 | refine Again_of (k + 1) ⟨by first | rfl | exact i64_next (by omega) | (simp_all <;> fail) | fail, trivial⟩ ⟨by first | rfl | first | rfl | exact congrArg (fun v : GroupT => some (AObj.mk (.box) 27 3 [[.own 12304, .int .i64 v.Term, .int .i64 v.Lead]])) (playG_yes hy ‹_›) | exact congrArg (fun v : GroupT => some (AObj.mk (.box) 27 3 [[.own 12304, .int .i64 v.Term, .int .i64 v.Lead]])) (playG_no hy ‹_›) | exact congrArg (fun v : GroupT => some (AObj.mk (.deep ReplicaT.shp) 60 3 (v.Reps.map ReplicaT.cells))) (playG_yes hy ‹_›) | exact congrArg (fun v : GroupT => some (AObj.mk (.deep ReplicaT.shp) 60 3 (v.Reps.map ReplicaT.cells))) (playG_no hy ‹_›) | fail | fail, by first | rfl | first | rfl | exact congrArg (fun v : GroupT => some (AObj.mk (.box) 27 3 [[.own 12304, .int .i64 v.Term, .int .i64 v.Lead]])) (playG_yes hy ‹_›) | exact congrArg (fun v : GroupT => some (AObj.mk (.box) 27 3 [[.own 12304, .int .i64 v.Term, .int .i64 v.Lead]])) (playG_no hy ‹_›) | exact congrArg (fun v : GroupT => some (AObj.mk (.deep ReplicaT.shp) 60 3 (v.Reps.map ReplicaT.cells))) (playG_yes hy ‹_›) | exact congrArg (fun v : GroupT => some (AObj.mk (.deep ReplicaT.shp) 60 3 (v.Reps.map ReplicaT.cells))) (playG_no hy ‹_›) | fail | fail, trivial⟩ (by first | (and_intros <;> first | rfl | trivial) | fail) (by first | (and_intros <;> first | rfl | trivial) | fail) rfl rfl rfl (by (try dsimp only); first | ((show k + 1 <= _; omega)) | fail) (show _ < _ by (try dsimp only); omega)
 | refine Call0 (c_impl_GoodGroup g hok hb) rfl rfl ?_
 | refine CallF (c_impl_copyGroup g hb) rfl rfl rfl (nbT rfl) ?_
 | refine CallF (c_impl_doGroup (playG g (acts.take k)) y (hv ‹_› k hT).1 (hv ‹_› k hT).2 (hy' hy).1 (hy' hy).2) rfl rfl rfl (nbT rfl) ?_
 | refine sdA ⟨nbT rfl, rfl⟩ ?_
 | refine sdA (by first | exact nbT rfl | exact rfl | omega | fail) ?_
 | refine sdA (by first | (and_intros <;> first | rfl | omega | exact nbT rfl) | fail) ?_
 | fail
  all_goals
    conv => whnf
    first
    | (exfalso; omega)
    | (obtain ⟨e1, e2⟩ := playR_yes ‹_› ‹_›
       rw [e1, e2]
       have e3 : k = acts.length := by omega
       subst e3
       exact OutA_deep rfl rfl rfl ⟨⟨rfl, rfl⟩, trivial⟩ rfl)
    | (obtain ⟨e1, e2⟩ := playR_no (g := g) (acts := acts) (by first | exact .inl ‹_› | exact .inr ‹_›); rw [e1, e2]; refine OutA_nilB 16 1 60 3 0 rfl rfl rfl (by decide) ?_; refine OutA_prom [(1, ReplicaT.shp)] ⟨⟨_, _, _, rfl, prom_nil⟩, trivial⟩ ?_; (conv => whnf); exact OutA_deep rfl rfl rfl ⟨⟨rfl, rfl⟩, trivial⟩ rfl)
end Go.Proofs.YtjjjalcmcifncaaGreat
set_option maxHeartbeats 4000000
set_option linter.unusedVariables false
namespace Go.Ab
theorem LR_consW {w : World} {ro : Nat -> Prop} {a b : AV} {as1 bs : List AV} {vs : List Value} (h1 : ∀ v, RR w ro a v -> RR w ro b v) (h2 : ∀ vs, LR w ro as1 vs -> LR w ro bs vs) (h : LR w ro (a :: as1) vs) : LR w ro (b :: bs) vs := by
  match vs, h with
  | [], h => unfold LR at h; exact h.elim
  | v :: vs, h =>
    unfold LR at h ⊢
    exact ⟨h1 v h.1, h2 vs h.2⟩
theorem RR_aggW {w : World} {ro : Nat -> Prop} {as1 bs : List AV} {v : Value} (h2 : ∀ vs, LR w ro as1 vs -> LR w ro bs vs) (h : RR w ro (.agg as1) v) : RR w ro (.agg bs) v := by
  unfold RR at h ⊢
  obtain ⟨vs, rfl, h3⟩ := h
  exact ⟨vs, rfl, h2 _ h3⟩
theorem PC.arg1 {P : Program} {sh : Bool} {f : Nat} {y y' r : AV} {os : List AObj} (hy : ∀ w ro v, RR w ro y' v -> RR w ro y v) (h : PC P sh f [y] r os) : PC P sh f [y'] r os := by
  refine ⟨fun w R vals hR hv => h.run w R vals hR ?_⟩
  exact LR_consW (hy _ _) (fun _ h => h) hv
end Go.Ab
namespace Go.Proofs.YtjjjalcmcifncaaGreat
open Go.Ab
set_option linter.unusedSimpArgs false
set_option maxRecDepth 20000
set_option maxHeartbeats 4000000
set_option linter.unusedVariables false
def NilR (r : RecT) : Prop := r.Reads = [] /\ r.Writes = []
theorem recC_weak {r : RecT} (n : NilR r) {w : World} {ro : Nat -> Prop} : ∀ vs, LR w ro (recC r) vs -> LR w ro (RecT.cells r) vs := by
  obtain ⟨a1, a2, a3, a4, rs, ws, ay⟩ := r
  obtain ⟨h1, h2⟩ := n
  cases h1; cases h2
  intro vs h
  exact LR_consW (fun _ h => h) (fun _ => LR_consW (fun _ h => h) (fun _ => LR_consW (fun _ h => h) (fun _ => LR_consW (fun _ h => h) (fun _ => LR_consW (fun _ => RR_nilS) (fun _ => LR_consW (fun _ => RR_nilS) (fun _ h => h)))))) h
theorem rec_nil {r : RecT} (n : NilR r) : r.ok /\ r.w = 0 /\ r.Reads.length <= 1048576 /\ r.Writes.length <= 1048576 := by
  obtain ⟨a1, a2, a3, a4, rs, ws, ay⟩ := r
  obtain ⟨h1, h2⟩ := n
  cases h1; cases h2
  exact ⟨⟨trivial, trivial, trivial, trivial, ⟨Nat.zero_le _, fun _ h => by cases h⟩, ⟨Nat.zero_le _, fun _ h => by cases h⟩, trivial⟩, rfl, Nat.zero_le _, Nat.zero_le _⟩
theorem c_spec_EntryBytesC (t : Int) (r : RecT) (n : NilR r) : PC Tryz.prog false 15 [.agg (.int .i64 t :: recC r)] (.tup [.str (entR ⟨t, r⟩), .bool (okEnt ⟨t, r⟩)]) [] := by
  obtain ⟨q1, q2, _⟩ := rec_nil n
  refine PC.arg1 (fun w ro v => RR_aggW fun vs => ?_) (c_spec_EntryBytes ⟨t, r⟩ ⟨trivial, q1⟩ (by show r.w <= _; omega))
  exact LR_consW (fun _ h => h) (recC_weak n)
def fR (s : List UInt8) : List UInt8 := if (s.length : Int) > 700 then [] else frB s
theorem c_spec_FrameBytes (s : List UInt8) : PC Tryz.prog false 16 [.str s] (.tup [.str (fR s), .bool (!decide ((s.length : Int) > 700))]) [] := by
  refine pc_at Tryz.func16 rfl (by kernel_rfl) 9 [.tmp 2, .tmp 3] rfl rfl ?_
  repeat' (conv => whnf); first
 | (refine nameB_dec (fun h => ?_) (fun h => ?_) <;> try simp only [lensB] at h)
 | refine splitB_true ?_
 | refine splitB_false ?_
 | refine Call0 (c_spec_l6FrameW s (by omega)) rfl rfl ?_
 | fail
  all_goals
    conv => whnf
    refine OutA_plain rfl rfl ?_
    unfold fR
    first
    | (rw [if_pos ‹_›, decide_eq_true ‹_›]; rfl)
    | (rw [if_neg ‹_›, decide_eq_false ‹_›]; rfl)
theorem c_spec_PutEntryC (g : GroupT) (r : RecT) (n : NilR r) (og : okGroup g = true) : PC Tryz.prog false 17 [.agg g.cells, .agg (recC r)] (.tup [.agg [.own 0, .int .i64 (putR g r).Term, .int .i64 (putR g r).Lead], .bool (okPut g r)]) [⟨.deep ReplicaT.shp, 60, 3, (putR g r).Reps.map ReplicaT.cells⟩] := by
  obtain ⟨q1, q2, q3, q4⟩ := rec_nil n
  obtain ⟨g1, g2, _⟩ := okG_small og
  exact PC.arg2 (fun w ro v => RR_aggW (recC_weak n)) (c_spec_PutEntryD g r g1 (gb_of (by omega)) q1 q3 q4)
def gaC (a : GroupActT) : List AV := .int .i64 a.Kind :: .int .i64 a.Rep :: recC a.Rec
def strip (a : GroupActT) : GroupActT := ⟨a.Kind, a.Rep, ⟨a.Rec.Kind, a.Rec.Txn, a.Rec.Time, a.Rec.Lead, [], [], a.Rec.Yes⟩⟩
theorem strip_same {acts : List GroupActT} (n : ∀ a ∈ acts, NilR a.Rec) : acts.map strip = acts := by
  conv => rhs; rw [<- List.map_id acts]
  refine List.map_congr_left fun a ha => ?_
  obtain ⟨h1, h2⟩ := n a ha
  obtain ⟨ak, ar, ⟨a1, a2, a3, a4, rs, ws, ay⟩⟩ := a
  cases h1; cases h2
  rfl
theorem PC.gacts {P : Program} {sh : Bool} {f : Nat} {x r : AV} {os : List AObj} {acts : List GroupActT} (n : ∀ a ∈ acts, NilR a.Rec) (h : PC P sh f [x, .sl (acts.map GroupActT.cells)] r os) : PC P sh f [x, .sl (acts.map gaC)] r os := by
  refine PC.arg2 (fun w ro v hv => ?_) h
  rw [<- strip_same n, List.map_map]
  refine RR_map (f := gaC) (g := GroupActT.cells ∘ strip) (fun _ => rfl) (fun a rd hq => ?_) hv
  exact CsR_cons (fun _ h => h) (fun _ => CsR_cons (fun _ h => h) (fun _ => CsR_cons (fun _ h => h) (fun _ => CsR_cons (fun _ h => h) (fun _ => CsR_cons (fun _ h => h) (fun _ => CsR_cons (fun _ h => h) (fun _ => CsR_cons (fun _ => RR_nilS) (fun _ => CsR_cons (fun _ => RR_nilS) (fun _ h => h)))))))) hq
theorem gact_ok {acts : List GroupActT} (n : ∀ a ∈ acts, NilR a.Rec) (hn : acts.length <= 200) : okL GroupActT.ok acts /\ wL GroupActT.w acts <= 200 := by
  refine ⟨⟨by omega, fun a ha => ⟨trivial, trivial, (rec_nil (n a ha)).1⟩⟩, ?_⟩
  have : (acts.map GroupActT.w).sum = 0 := by
    clear hn
    induction acts with
    | nil => rfl
    | cons a bs ih =>
      rw [List.map_cons, List.sum_cons, ih fun b hb => n b (List.mem_cons_of_mem _ hb)]
      show a.Rec.w + 0 = 0
      rw [(rec_nil (n a (List.mem_cons_self ..))).2.1]
  show acts.length + _ <= _
  rw [this]; omega
theorem play_yes {g : GroupT} {acts : List GroupActT} (og : okGroup g = true) (hn : acts.length <= 200) : okPlayG g acts = true /\ playR g acts = playG g acts := by
  obtain ⟨e1, e2⟩ := playR_yes (acts := acts) og (by omega)
  rw [List.take_length] at e2
  exact ⟨e1, e2⟩
theorem c_impl_PlayG (g : GroupT) (acts : List GroupActT) (og : okGroup g = true) (n : ∀ a ∈ acts, NilR a.Rec) (hn : acts.length <= 200) : PC Tryz.prog false 18 [.agg g.cells, .sl (acts.map gaC)] (.tup [.agg [.own 0, .int .i64 (playG g acts).Term, .int .i64 (playG g acts).Lead], .bool true]) [⟨.deep ReplicaT.shp, 60, 3, (playG g acts).Reps.map ReplicaT.cells⟩] := by
  obtain ⟨g1, g2, _⟩ := okG_small og
  obtain ⟨a1, a2⟩ := gact_ok n hn
  have h := c_impl_PlayGroup g acts g1 a1 (by omega)
  obtain ⟨e1, e2⟩ := play_yes (acts := acts) og hn
  rw [e1, e2] at h
  exact PC.gacts n h
theorem c_spec_PlayG (g : GroupT) (acts : List GroupActT) (og : okGroup g = true) (n : ∀ a ∈ acts, NilR a.Rec) (hn : acts.length <= 200) : PC Tryz.prog true 19 [.agg g.cells, .sl (acts.map gaC)] (.tup [.agg (playG g acts).cells, .bool true]) [] := by
  obtain ⟨g1, g2, _⟩ := okG_small og
  obtain ⟨a1, a2⟩ := gact_ok n hn
  have h := c_spec_PlayGroup g acts g1 a1 (by omega)
  obtain ⟨e1, e2⟩ := play_yes (acts := acts) og hn
  rw [e1, e2] at h
  exact PC.gacts n h
theorem c_impl_PlayG0 (g : GroupT) (og : okGroup g = true) : PC Tryz.prog false 18 [.agg g.cells, .nil] (.tup [.agg [.own 0, .int .i64 (playG g []).Term, .int .i64 (playG g []).Lead], .bool true]) [⟨.deep ReplicaT.shp, 60, 3, (playG g []).Reps.map ReplicaT.cells⟩] :=
  PC.nil2 (c_impl_PlayG g [] og (fun _ h => by cases h) (Nat.zero_le _))
theorem c_spec_PlayG0 (g : GroupT) (og : okGroup g = true) : PC Tryz.prog true 19 [.agg g.cells, .nil] (.tup [.agg (playG g []).cells, .bool true]) [] :=
  PC.nil2 (c_spec_PlayG g [] og (fun _ h => by cases h) (Nat.zero_le _))
abbrev nF (g : GroupT) (r : RecT) : Nat := (fR (entR ⟨g.Term, r⟩)).length
theorem nF_put {g : GroupT} {r : RecT} (h : okPut g r = true) (h1 : 1 <= g.Term) : nF g r = (frB (entB ⟨g.Term, r⟩)).length := by
  obtain ⟨hg, h0, hlen, hr⟩ := put_group h
  have hT := (okG_iff.1 hg).term
  have e : okEnt ⟨g.Term, r⟩ = true := by
    unfold okEnt inB
    rw [hr, decide_eq_true h1, decide_eq_true hT.2]; rfl
  have h7 := entB_700 (e := ⟨g.Term, r⟩) ⟨hr, h1, hT.2⟩
  unfold nF
  rw [entR_yes e]
  unfold fR
  rw [if_neg (by omega)]
section
variable {H : HouseT} {g : GroupT} {a : HouseActT}
theorem alikeF (al : Alike H g) (f : Fine H) (hk : 0 <= a.Keep) : Alike (playH H [a]) (playG g (actsS g a (nF g a.Rec))) := by
  have h := al.next f a hk
  rw [playH_one]
  have e : actsS g a (nF g a.Rec) = actsS g a (frB (entB ⟨g.Term, a.Rec⟩)).length := by
    unfold actsS
    by_cases ho : okPut g a.Rec = true
    · have h0 : 0 <= g.Lead := (put_group ho).2.1
      rw [nF_put ho (by rw [al.term]; exact f.one (by rw [<- al.lead]; exact h0))]
    · rw [if_neg (c := okPut g a.Rec = true /\ a.Keep <= (nF g a.Rec : Int)) (fun e => ho e.1), if_neg (c := okPut g a.Rec = true /\ a.Keep <= ((frB (entB ⟨g.Term, a.Rec⟩)).length : Int)) (fun e => ho e.1)]
  rw [e]
  exact h
theorem alike1 (al : Alike H g) (f : Fine H) (hk : 0 <= a.Keep) (k : ¬ a.Kind = 7) : Alike (playH H [a]) (playG g [gaOf a]) := by
  have h := alikeF al f hk
  unfold actsS at h
  rw [if_neg k] at h
  exact h
theorem alike2 (al : Alike H g) (f : Fine H) (hk : 0 <= a.Keep) (k : a.Kind = 7) (o : okPut g a.Rec = true) (e : a.Keep = (nF g a.Rec : Int)) (t : a.Torn = false) : Alike (playH H [a]) (playG g [paG a.Rec, caG g]) := by
  have h := alikeF al f hk
  unfold actsS at h
  rw [if_pos k, if_pos ⟨o, Int.le_of_eq e⟩, if_pos ⟨e, t⟩] at h
  exact h
theorem alike3 (al : Alike H g) (f : Fine H) (hk : 0 <= a.Keep) (k : a.Kind = 7) (o : okPut g a.Rec = true) (e : a.Keep <= (nF g a.Rec : Int)) (t : ¬ a.Keep = (nF g a.Rec : Int) \/ a.Torn = true) : Alike (playH H [a]) (playG g [caG g]) := by
  have h := alikeF al f hk
  unfold actsS at h
  rw [if_pos k, if_pos ⟨o, e⟩, if_neg (fun q => t.elim (fun z => z q.1) (fun z => by rw [q.2] at z; cases z))] at h
  exact h
theorem alike4 (al : Alike H g) (f : Fine H) (hk : 0 <= a.Keep) (k : a.Kind = 7) (o : okPut g a.Rec = false \/ ¬ a.Keep <= (nF g a.Rec : Int)) : Alike (playH H [a]) (playG g []) := by
  have h := alikeF al f hk
  unfold actsS at h
  rw [if_pos k, if_neg (fun q => o.elim (fun z => by rw [q.1] at z; cases z) (fun z => z q.2))] at h
  exact h
end
theorem alike_new {n : Nat} (hn : n = 3 \/ n = 5) : Alike (newHouseN n) (newHouseN n).Group := by
  have f := Fine.new hn
  refine ⟨rfl, rfl, rfl, (okG_iff.1 f.oh.g).rep, fun i x d hx hd => ⟨x, hx, rfl, ?_, Int.le_refl _⟩⟩
  have e1 : x = newRep := List.eq_of_mem_replicate (mgE hx)
  have e2 : d = ⟨[], []⟩ := List.eq_of_mem_replicate (mgE hd)
  rw [e1, e2, onK_nil]; rfl
section
variable {H : HouseT} {g : GroupT} {k : Nat} {x y : ReplicaT}
theorem alike_two (al : Alike H g) (f : Fine H) (hx : H.Group.Reps[k]? = some x) (hy : g.Reps[k]? = some y) : y.Up = x.Up /\ x.Sure <= y.Sure /\ (x.Up = true -> x.Log = y.Log) /\ x.Log <+: y.Log := by
  obtain ⟨x', d, hx', hd⟩ := f.disk (List.getElem?_eq_some_iff.1 hx).1
  rw [hx] at hx'; cases hx'
  obtain ⟨y', hy', yu, yl, ys⟩ := al.rep _ x d hx hd
  rw [hy] at hy'; cases hy'
  exact ⟨yu, ys, fun u => (al.same f hx hy u).symm, by rw [yl]; exact (f.fit hx hd).pre⟩
theorem alike_sure (al : Alike H g) (f : Fine H) (hx : H.Group.Reps[k]? = some x) (hy : g.Reps[k]? = some y) : ¬ x.Sure > y.Sure := by have := (alike_two al f hx hy).2.1; omega
theorem alike_log (al : Alike H g) (f : Fine H) (hx : H.Group.Reps[k]? = some x) (hy : g.Reps[k]? = some y) (u : x.Up = true) : decide (x.Log = y.Log) = true := decide_eq_true ((alike_two al f hx hy).2.2.1 u)
theorem alike_pre (al : Alike H g) (f : Fine H) (hx : H.Group.Reps[k]? = some x) (hy : g.Reps[k]? = some y) : preE y.Log x.Log = true := preE_iff.2 (alike_two al f hx hy).2.2.2
end
section
variable {h : HouseT} {acts : List HouseActT} {k : Nat} {y : HouseActT}
theorem playH_7 (hy : acts[k]? = some y) (e : y.Kind = 7) (o : okTearI (playH h (acts.take k)) y.Rec y.Keep = true) : tearI (playH h (acts.take k)) y.Rec y.Keep y.Torn = playH h (acts.take (k + 1)) := (step7 e o).trans (playH_next hy).symm
theorem playH_7n (hy : acts[k]? = some y) (e : y.Kind = 7) (o : okTearI (playH h (acts.take k)) y.Rec y.Keep = false) : playH h (acts.take k) = playH h (acts.take (k + 1)) := (step7n e o).trans (playH_next hy).symm
theorem playH_A (hy : acts[k]? = some y) (e : ¬ y.Kind = 7) (o : okActI (playH h (acts.take k)) (gaOf y) = true) : actI (playH h (acts.take k)) (gaOf y) = playH h (acts.take (k + 1)) := (stepA e o).trans (playH_next hy).symm
theorem playH_An (hy : acts[k]? = some y) (e : ¬ y.Kind = 7) (o : okActI (playH h (acts.take k)) (gaOf y) = false) : playH h (acts.take k) = playH h (acts.take (k + 1)) := (stepAn e o).trans (playH_next hy).symm
end
theorem c_impl_PlayHouseT (H : HouseT) (acts : List HouseActT) (f : Fine H) (ha : okL HouseActT.ok acts) (hw : wL HouseActT.w acts <= 1048576) (hn : acts.length <= 120) : PC Tryz.prog false 9 [.agg H.cells, .sl (acts.map HouseActT.cells)] (.tup [.agg [.own 0, .int .i64 (playH H (acts.take acts.length)).Group.Term, .int .i64 (playH H (acts.take acts.length)).Group.Lead, .own 1], .bool true]) [⟨.deep ReplicaT.shp, 60, 3, (playH H (acts.take acts.length)).Group.Reps.map ReplicaT.cells⟩, ⟨.deep DiskT.shp, 67, 2, (playH H (acts.take acts.length)).Disks.map DiskT.cells⟩] := by
  have hv : ∀ k, Fine (playH H (acts.take k)) := fun k => f.play
  have hy' : ∀ {k : Nat} {y : HouseActT}, acts[k]? = some y -> y.ok /\ y.w <= 1048576 := fun h => ⟨ha.2 _ (mgE h), by have := (wL_mem (w := HouseActT.w) (mgE h)).2; omega⟩
  have hdl := f.hb.dl
  have hg : okHouse H = true := f.okHouse
  refine pc_at Tryz.func9 rfl (by kernel_rfl) 64 [.cell 4 30, .tmp 5] rfl rfl ?_
  repeat' (conv => whnf); first
 | refine nameB_yes (b := okHouse H) hg ?_
 | (refine ix_as (f := HouseActT.cells) (m := k) rfl (by omega) (fun y hy => ?_))
 | (refine nameB_self (b := y.Torn) ?_)
 | (refine nameB_cases (b := okTearI (playH H (acts.take k)) y.Rec y.Keep) (fun h => ?_) (fun h => ?_))
 | (refine nameB_cases (b := okActI (playH H (acts.take k)) (gaOf y)) (fun h => ?_) (fun h => ?_))
 | refine nameB_false ?_
 | (refine nameB_dec (fun h => ?_) (fun h => ?_) <;> try simp only [lensB] at h)
 | refine splitB_true ?_
 | refine splitB_false ?_
 | refine draw_text (by kernel_rfl) (by kernel_rfl) (by kernel_rfl) ?_
 | ((refine Loop_prom [(12368, DiskT.shp)] ⟨⟨_, _, _, rfl, by first | exact prom_nil | exact prom_rep rfl | exact prom_map (fun _ => rfl) | exact prom_one rfl⟩, trivial⟩ ?_; refine Loop_at [4, 6, 27, 28] [0, 16] (Nat) (fun k => k <= acts.length) (fun k => [(29, .int .i64 (k : Nat))]) (fun k => [(12400, ⟨true, 30, 4, [[.own 12320, .int .i64 (playH H (acts.take k)).Group.Term, .int .i64 (playH H (acts.take k)).Group.Lead, .own 12368]]⟩), (12320, ⟨.deep ReplicaT.shp, 60, 3, (playH H (acts.take k)).Group.Reps.map ReplicaT.cells⟩), (12368, ⟨.deep DiskT.shp, 67, 2, (playH H (acts.take k)).Disks.map DiskT.cells⟩)]) (fun k => acts.length - k) 0 ⟨by first | (simp_all <;> fail) | rfl | fail, trivial⟩ ⟨by first | rfl | first | rfl | (have e := (by first | exact playH_7 hy ‹_› ‹_› | exact playH_A hy ‹_› ‹_› : (_ : HouseT) = playH H (acts.take (k + 1))); first | exact congrArg (fun v : HouseT => some (AObj.mk (.box) 30 4 [[.own 12320, .int .i64 v.Group.Term, .int .i64 v.Group.Lead, .own 12368]])) e | exact congrArg (fun v : HouseT => some (AObj.mk (.deep ReplicaT.shp) 60 3 (v.Group.Reps.map ReplicaT.cells))) e | exact congrArg (fun v : HouseT => some (AObj.mk (.deep DiskT.shp) 67 2 (v.Disks.map DiskT.cells))) e) | (have e := (by first | exact playH_7n hy ‹_› ‹_› | exact playH_An hy ‹_› ‹_› : (_ : HouseT) = playH H (acts.take (k + 1))); first | exact congrArg (fun v : HouseT => some (AObj.mk (.box) 30 4 [[.own 12320, .int .i64 v.Group.Term, .int .i64 v.Group.Lead, .own 12368]])) e | exact congrArg (fun v : HouseT => some (AObj.mk (.deep ReplicaT.shp) 60 3 (v.Group.Reps.map ReplicaT.cells))) e | exact congrArg (fun v : HouseT => some (AObj.mk (.deep DiskT.shp) 67 2 (v.Disks.map DiskT.cells))) e) | fail | fail, by first | rfl | first | rfl | (have e := (by first | exact playH_7 hy ‹_› ‹_› | exact playH_A hy ‹_› ‹_› : (_ : HouseT) = playH H (acts.take (k + 1))); first | exact congrArg (fun v : HouseT => some (AObj.mk (.box) 30 4 [[.own 12320, .int .i64 v.Group.Term, .int .i64 v.Group.Lead, .own 12368]])) e | exact congrArg (fun v : HouseT => some (AObj.mk (.deep ReplicaT.shp) 60 3 (v.Group.Reps.map ReplicaT.cells))) e | exact congrArg (fun v : HouseT => some (AObj.mk (.deep DiskT.shp) 67 2 (v.Disks.map DiskT.cells))) e) | (have e := (by first | exact playH_7n hy ‹_› ‹_› | exact playH_An hy ‹_› ‹_› : (_ : HouseT) = playH H (acts.take (k + 1))); first | exact congrArg (fun v : HouseT => some (AObj.mk (.box) 30 4 [[.own 12320, .int .i64 v.Group.Term, .int .i64 v.Group.Lead, .own 12368]])) e | exact congrArg (fun v : HouseT => some (AObj.mk (.deep ReplicaT.shp) 60 3 (v.Group.Reps.map ReplicaT.cells))) e | exact congrArg (fun v : HouseT => some (AObj.mk (.deep DiskT.shp) 67 2 (v.Disks.map DiskT.cells))) e) | fail | fail, by first | rfl | first | rfl | (have e := (by first | exact playH_7 hy ‹_› ‹_› | exact playH_A hy ‹_› ‹_› : (_ : HouseT) = playH H (acts.take (k + 1))); first | exact congrArg (fun v : HouseT => some (AObj.mk (.box) 30 4 [[.own 12320, .int .i64 v.Group.Term, .int .i64 v.Group.Lead, .own 12368]])) e | exact congrArg (fun v : HouseT => some (AObj.mk (.deep ReplicaT.shp) 60 3 (v.Group.Reps.map ReplicaT.cells))) e | exact congrArg (fun v : HouseT => some (AObj.mk (.deep DiskT.shp) 67 2 (v.Disks.map DiskT.cells))) e) | (have e := (by first | exact playH_7n hy ‹_› ‹_› | exact playH_An hy ‹_› ‹_› : (_ : HouseT) = playH H (acts.take (k + 1))); first | exact congrArg (fun v : HouseT => some (AObj.mk (.box) 30 4 [[.own 12320, .int .i64 v.Group.Term, .int .i64 v.Group.Lead, .own 12368]])) e | exact congrArg (fun v : HouseT => some (AObj.mk (.deep ReplicaT.shp) 60 3 (v.Group.Reps.map ReplicaT.cells))) e | exact congrArg (fun v : HouseT => some (AObj.mk (.deep DiskT.shp) 67 2 (v.Disks.map DiskT.cells))) e) | fail | fail, trivial⟩ (by (try dsimp only); first | (exact Nat.zero_le _) | fail) ?_; (conv => whnf); refine side_and (side_of (by first | exact fun k => rfl | exact fun k => by simp [headOk, closedE, closedO, closedL, AV.closed, hcap.closed, hasId, AObj.box, BK.ofB])) ?_; rintro k hT; try dsimp only at hT))
 | refine Again_ren 36976 12320 (by decide) rfl ?_; (conv => whnf); refine Again_ren 36977 12368 (by decide) rfl ?_; (conv => whnf); refine Again_of (k + 1) ⟨by first | rfl | exact i64_next (by omega) | (simp_all <;> fail) | fail, trivial⟩ ⟨by first | rfl | first | rfl | (have e := (by first | exact playH_7 hy ‹_› ‹_› | exact playH_A hy ‹_› ‹_› : (_ : HouseT) = playH H (acts.take (k + 1))); first | exact congrArg (fun v : HouseT => some (AObj.mk (.box) 30 4 [[.own 12320, .int .i64 v.Group.Term, .int .i64 v.Group.Lead, .own 12368]])) e | exact congrArg (fun v : HouseT => some (AObj.mk (.deep ReplicaT.shp) 60 3 (v.Group.Reps.map ReplicaT.cells))) e | exact congrArg (fun v : HouseT => some (AObj.mk (.deep DiskT.shp) 67 2 (v.Disks.map DiskT.cells))) e) | (have e := (by first | exact playH_7n hy ‹_› ‹_› | exact playH_An hy ‹_› ‹_› : (_ : HouseT) = playH H (acts.take (k + 1))); first | exact congrArg (fun v : HouseT => some (AObj.mk (.box) 30 4 [[.own 12320, .int .i64 v.Group.Term, .int .i64 v.Group.Lead, .own 12368]])) e | exact congrArg (fun v : HouseT => some (AObj.mk (.deep ReplicaT.shp) 60 3 (v.Group.Reps.map ReplicaT.cells))) e | exact congrArg (fun v : HouseT => some (AObj.mk (.deep DiskT.shp) 67 2 (v.Disks.map DiskT.cells))) e) | fail | fail, by first | rfl | first | rfl | (have e := (by first | exact playH_7 hy ‹_› ‹_› | exact playH_A hy ‹_› ‹_› : (_ : HouseT) = playH H (acts.take (k + 1))); first | exact congrArg (fun v : HouseT => some (AObj.mk (.box) 30 4 [[.own 12320, .int .i64 v.Group.Term, .int .i64 v.Group.Lead, .own 12368]])) e | exact congrArg (fun v : HouseT => some (AObj.mk (.deep ReplicaT.shp) 60 3 (v.Group.Reps.map ReplicaT.cells))) e | exact congrArg (fun v : HouseT => some (AObj.mk (.deep DiskT.shp) 67 2 (v.Disks.map DiskT.cells))) e) | (have e := (by first | exact playH_7n hy ‹_› ‹_› | exact playH_An hy ‹_› ‹_› : (_ : HouseT) = playH H (acts.take (k + 1))); first | exact congrArg (fun v : HouseT => some (AObj.mk (.box) 30 4 [[.own 12320, .int .i64 v.Group.Term, .int .i64 v.Group.Lead, .own 12368]])) e | exact congrArg (fun v : HouseT => some (AObj.mk (.deep ReplicaT.shp) 60 3 (v.Group.Reps.map ReplicaT.cells))) e | exact congrArg (fun v : HouseT => some (AObj.mk (.deep DiskT.shp) 67 2 (v.Disks.map DiskT.cells))) e) | fail | fail, by first | rfl | first | rfl | (have e := (by first | exact playH_7 hy ‹_› ‹_› | exact playH_A hy ‹_› ‹_› : (_ : HouseT) = playH H (acts.take (k + 1))); first | exact congrArg (fun v : HouseT => some (AObj.mk (.box) 30 4 [[.own 12320, .int .i64 v.Group.Term, .int .i64 v.Group.Lead, .own 12368]])) e | exact congrArg (fun v : HouseT => some (AObj.mk (.deep ReplicaT.shp) 60 3 (v.Group.Reps.map ReplicaT.cells))) e | exact congrArg (fun v : HouseT => some (AObj.mk (.deep DiskT.shp) 67 2 (v.Disks.map DiskT.cells))) e) | (have e := (by first | exact playH_7n hy ‹_› ‹_› | exact playH_An hy ‹_› ‹_› : (_ : HouseT) = playH H (acts.take (k + 1))); first | exact congrArg (fun v : HouseT => some (AObj.mk (.box) 30 4 [[.own 12320, .int .i64 v.Group.Term, .int .i64 v.Group.Lead, .own 12368]])) e | exact congrArg (fun v : HouseT => some (AObj.mk (.deep ReplicaT.shp) 60 3 (v.Group.Reps.map ReplicaT.cells))) e | exact congrArg (fun v : HouseT => some (AObj.mk (.deep DiskT.shp) 67 2 (v.Disks.map DiskT.cells))) e) | fail | fail, trivial⟩ (by first | (and_intros <;> first | rfl | trivial) | fail) (by first | (and_intros <;> first | rfl | trivial) | fail) rfl rfl rfl (by (try dsimp only); first | ((show k + 1 <= _; omega)) | fail) (show _ < _ by (try dsimp only); omega)
 | refine Again_ren 41088 12320 (by decide) rfl ?_; (conv => whnf); refine Again_ren 41089 12368 (by decide) rfl ?_; (conv => whnf); refine Again_of (k + 1) ⟨by first | rfl | exact i64_next (by omega) | (simp_all <;> fail) | fail, trivial⟩ ⟨by first | rfl | first | rfl | (have e := (by first | exact playH_7 hy ‹_› ‹_› | exact playH_A hy ‹_› ‹_› : (_ : HouseT) = playH H (acts.take (k + 1))); first | exact congrArg (fun v : HouseT => some (AObj.mk (.box) 30 4 [[.own 12320, .int .i64 v.Group.Term, .int .i64 v.Group.Lead, .own 12368]])) e | exact congrArg (fun v : HouseT => some (AObj.mk (.deep ReplicaT.shp) 60 3 (v.Group.Reps.map ReplicaT.cells))) e | exact congrArg (fun v : HouseT => some (AObj.mk (.deep DiskT.shp) 67 2 (v.Disks.map DiskT.cells))) e) | (have e := (by first | exact playH_7n hy ‹_› ‹_› | exact playH_An hy ‹_› ‹_› : (_ : HouseT) = playH H (acts.take (k + 1))); first | exact congrArg (fun v : HouseT => some (AObj.mk (.box) 30 4 [[.own 12320, .int .i64 v.Group.Term, .int .i64 v.Group.Lead, .own 12368]])) e | exact congrArg (fun v : HouseT => some (AObj.mk (.deep ReplicaT.shp) 60 3 (v.Group.Reps.map ReplicaT.cells))) e | exact congrArg (fun v : HouseT => some (AObj.mk (.deep DiskT.shp) 67 2 (v.Disks.map DiskT.cells))) e) | fail | fail, by first | rfl | first | rfl | (have e := (by first | exact playH_7 hy ‹_› ‹_› | exact playH_A hy ‹_› ‹_› : (_ : HouseT) = playH H (acts.take (k + 1))); first | exact congrArg (fun v : HouseT => some (AObj.mk (.box) 30 4 [[.own 12320, .int .i64 v.Group.Term, .int .i64 v.Group.Lead, .own 12368]])) e | exact congrArg (fun v : HouseT => some (AObj.mk (.deep ReplicaT.shp) 60 3 (v.Group.Reps.map ReplicaT.cells))) e | exact congrArg (fun v : HouseT => some (AObj.mk (.deep DiskT.shp) 67 2 (v.Disks.map DiskT.cells))) e) | (have e := (by first | exact playH_7n hy ‹_› ‹_› | exact playH_An hy ‹_› ‹_› : (_ : HouseT) = playH H (acts.take (k + 1))); first | exact congrArg (fun v : HouseT => some (AObj.mk (.box) 30 4 [[.own 12320, .int .i64 v.Group.Term, .int .i64 v.Group.Lead, .own 12368]])) e | exact congrArg (fun v : HouseT => some (AObj.mk (.deep ReplicaT.shp) 60 3 (v.Group.Reps.map ReplicaT.cells))) e | exact congrArg (fun v : HouseT => some (AObj.mk (.deep DiskT.shp) 67 2 (v.Disks.map DiskT.cells))) e) | fail | fail, by first | rfl | first | rfl | (have e := (by first | exact playH_7 hy ‹_› ‹_› | exact playH_A hy ‹_› ‹_› : (_ : HouseT) = playH H (acts.take (k + 1))); first | exact congrArg (fun v : HouseT => some (AObj.mk (.box) 30 4 [[.own 12320, .int .i64 v.Group.Term, .int .i64 v.Group.Lead, .own 12368]])) e | exact congrArg (fun v : HouseT => some (AObj.mk (.deep ReplicaT.shp) 60 3 (v.Group.Reps.map ReplicaT.cells))) e | exact congrArg (fun v : HouseT => some (AObj.mk (.deep DiskT.shp) 67 2 (v.Disks.map DiskT.cells))) e) | (have e := (by first | exact playH_7n hy ‹_› ‹_› | exact playH_An hy ‹_› ‹_› : (_ : HouseT) = playH H (acts.take (k + 1))); first | exact congrArg (fun v : HouseT => some (AObj.mk (.box) 30 4 [[.own 12320, .int .i64 v.Group.Term, .int .i64 v.Group.Lead, .own 12368]])) e | exact congrArg (fun v : HouseT => some (AObj.mk (.deep ReplicaT.shp) 60 3 (v.Group.Reps.map ReplicaT.cells))) e | exact congrArg (fun v : HouseT => some (AObj.mk (.deep DiskT.shp) 67 2 (v.Disks.map DiskT.cells))) e) | fail | fail, trivial⟩ (by first | (and_intros <;> first | rfl | trivial) | fail) (by first | (and_intros <;> first | rfl | trivial) | fail) rfl rfl rfl (by (try dsimp only); first | ((show k + 1 <= _; omega)) | fail) (show _ < _ by (try dsimp only); omega)
 | refine Again_of (k + 1) ⟨by first | rfl | exact i64_next (by omega) | (simp_all <;> fail) | fail, trivial⟩ ⟨by first | rfl | first | rfl | (have e := (by first | exact playH_7 hy ‹_› ‹_› | exact playH_A hy ‹_› ‹_› : (_ : HouseT) = playH H (acts.take (k + 1))); first | exact congrArg (fun v : HouseT => some (AObj.mk (.box) 30 4 [[.own 12320, .int .i64 v.Group.Term, .int .i64 v.Group.Lead, .own 12368]])) e | exact congrArg (fun v : HouseT => some (AObj.mk (.deep ReplicaT.shp) 60 3 (v.Group.Reps.map ReplicaT.cells))) e | exact congrArg (fun v : HouseT => some (AObj.mk (.deep DiskT.shp) 67 2 (v.Disks.map DiskT.cells))) e) | (have e := (by first | exact playH_7n hy ‹_› ‹_› | exact playH_An hy ‹_› ‹_› : (_ : HouseT) = playH H (acts.take (k + 1))); first | exact congrArg (fun v : HouseT => some (AObj.mk (.box) 30 4 [[.own 12320, .int .i64 v.Group.Term, .int .i64 v.Group.Lead, .own 12368]])) e | exact congrArg (fun v : HouseT => some (AObj.mk (.deep ReplicaT.shp) 60 3 (v.Group.Reps.map ReplicaT.cells))) e | exact congrArg (fun v : HouseT => some (AObj.mk (.deep DiskT.shp) 67 2 (v.Disks.map DiskT.cells))) e) | fail | fail, by first | rfl | first | rfl | (have e := (by first | exact playH_7 hy ‹_› ‹_› | exact playH_A hy ‹_› ‹_› : (_ : HouseT) = playH H (acts.take (k + 1))); first | exact congrArg (fun v : HouseT => some (AObj.mk (.box) 30 4 [[.own 12320, .int .i64 v.Group.Term, .int .i64 v.Group.Lead, .own 12368]])) e | exact congrArg (fun v : HouseT => some (AObj.mk (.deep ReplicaT.shp) 60 3 (v.Group.Reps.map ReplicaT.cells))) e | exact congrArg (fun v : HouseT => some (AObj.mk (.deep DiskT.shp) 67 2 (v.Disks.map DiskT.cells))) e) | (have e := (by first | exact playH_7n hy ‹_› ‹_› | exact playH_An hy ‹_› ‹_› : (_ : HouseT) = playH H (acts.take (k + 1))); first | exact congrArg (fun v : HouseT => some (AObj.mk (.box) 30 4 [[.own 12320, .int .i64 v.Group.Term, .int .i64 v.Group.Lead, .own 12368]])) e | exact congrArg (fun v : HouseT => some (AObj.mk (.deep ReplicaT.shp) 60 3 (v.Group.Reps.map ReplicaT.cells))) e | exact congrArg (fun v : HouseT => some (AObj.mk (.deep DiskT.shp) 67 2 (v.Disks.map DiskT.cells))) e) | fail | fail, by first | rfl | first | rfl | (have e := (by first | exact playH_7 hy ‹_› ‹_› | exact playH_A hy ‹_› ‹_› : (_ : HouseT) = playH H (acts.take (k + 1))); first | exact congrArg (fun v : HouseT => some (AObj.mk (.box) 30 4 [[.own 12320, .int .i64 v.Group.Term, .int .i64 v.Group.Lead, .own 12368]])) e | exact congrArg (fun v : HouseT => some (AObj.mk (.deep ReplicaT.shp) 60 3 (v.Group.Reps.map ReplicaT.cells))) e | exact congrArg (fun v : HouseT => some (AObj.mk (.deep DiskT.shp) 67 2 (v.Disks.map DiskT.cells))) e) | (have e := (by first | exact playH_7n hy ‹_› ‹_› | exact playH_An hy ‹_› ‹_› : (_ : HouseT) = playH H (acts.take (k + 1))); first | exact congrArg (fun v : HouseT => some (AObj.mk (.box) 30 4 [[.own 12320, .int .i64 v.Group.Term, .int .i64 v.Group.Lead, .own 12368]])) e | exact congrArg (fun v : HouseT => some (AObj.mk (.deep ReplicaT.shp) 60 3 (v.Group.Reps.map ReplicaT.cells))) e | exact congrArg (fun v : HouseT => some (AObj.mk (.deep DiskT.shp) 67 2 (v.Disks.map DiskT.cells))) e) | fail | fail, trivial⟩ (by first | (and_intros <;> first | rfl | trivial) | fail) (by first | (and_intros <;> first | rfl | trivial) | fail) rfl rfl rfl (by (try dsimp only); first | ((show k + 1 <= _; omega)) | fail) (show _ < _ by (try dsimp only); omega)
 | refine Call0 (c_impl_GoodHouse H f.small.1 f.hb) rfl rfl ?_
 | refine CallF (c_impl_tearHouse (playH H (acts.take k)) y.Rec y.Keep y.Torn (hv k).small.1 (hv k).hb (hy' hy).1.2.2.1 (hy' hy).2 (hv k).okHouse) rfl rfl rfl (nbT rfl) ?_
 | refine CallF (c_impl_actHouse (playH H (acts.take k)) (gaOf y) (hv k).small.1 (hv k).hb ⟨trivial, trivial, (hy' hy).1.2.2.1⟩ (hy' hy).2 (hv k).okHouse) rfl rfl rfl (nbT rfl) ?_
 | refine CallDF (c_impl_copyGroup H.Group f.hb.gb) rfl rfl ⟨rfl, rfl⟩ ?_
 | refine CallDF (c_Clone_Disk H.Disks hdl) rfl rfl ⟨rfl, rfl⟩ ?_
 | refine sdA ⟨nbT rfl, rfl⟩ ?_
 | refine sdA (by first | exact nbT rfl | exact rfl | omega | fail) ?_
 | refine sdA (by first | (and_intros <;> first | rfl | omega | exact nbT rfl) | fail) ?_
 | fail
  all_goals
    conv => whnf
    first
    | (exfalso; omega)
    | (have e3 : k = acts.length := by omega
       subst e3
       exact OutA_deep rfl rfl rfl ⟨⟨rfl, rfl⟩, ⟨⟨rfl, rfl⟩, trivial⟩⟩ rfl)
theorem c_impl_PlayHouse (H : HouseT) (acts : List HouseActT) (f : Fine H) (ha : okL HouseActT.ok acts) (hw : wL HouseActT.w acts <= 1048576) (hn : acts.length <= 120) : PC Tryz.prog false 9 [.agg H.cells, .sl (acts.map HouseActT.cells)] (.tup [.agg [.own 0, .int .i64 (playH H acts).Group.Term, .int .i64 (playH H acts).Group.Lead, .own 1], .bool true]) [⟨.deep ReplicaT.shp, 60, 3, (playH H acts).Group.Reps.map ReplicaT.cells⟩, ⟨.deep DiskT.shp, 67, 2, (playH H acts).Disks.map DiskT.cells⟩] := by
  have := c_impl_PlayHouseT H acts f ha hw hn
  rw [List.take_length] at this
  exact this
theorem c_spec_l11Own (H : HouseT) (hb : HB H) : PC Tryz.prog true 29 [.agg H.cells] (.agg [.own 0, .int .i64 H.Group.Term, .int .i64 H.Group.Lead, .own 1]) [⟨false, 60, 3, H.Group.Reps.map ReplicaT.cells⟩, ⟨false, 67, 2, H.Disks.map DiskT.cells⟩] := by
  have hdl := hb.dl
  refine pc_at Tryz.func29 rfl (by kernel_rfl) 11 [.cell 2 30] rfl rfl ?_
  repeat' (conv => whnf); first
 | refine draw_text (by kernel_rfl) (by kernel_rfl) (by kernel_rfl) ?_
 | refine CallDT (c_spec_l9Own H.Group hb.gb) rfl rfl rfl ⟨rfl, rfl⟩ ?_
 | refine sdA ⟨nbT rfl, rfl⟩ ?_
 | refine sdA (by first | exact nbT rfl | exact rfl | omega | fail) ?_
 | refine sdA (by first | (and_intros <;> first | rfl | omega | exact nbT rfl) | fail) ?_
 | refine sdA (by first | (and_intros <;> first | exact nbT rfl | rfl | omega | (simp only [lensB, lensC]; omega) | exact bytes_ok (nbT rfl) (by omega) (by simp only [lensB, lensC]; omega) | exact bytes_okN (nbT rfl) (by simp only [lensB, lensC]; omega)) | fail) ?_
 | refine side_and (side_of (map_len (fun _ => rfl))) ?_
 | refine side_and (side_of (map_one (fun _ => rfl) _)) ?_
 | fail
  all_goals
    conv => whnf
    exact OutA_ids rfl rfl rfl ⟨⟨_, _, _, rfl, rfl⟩, ⟨_, _, _, rfl, rfl⟩, trivial⟩ rfl (.inl rfl)
theorem stepS7 {h : HouseT} {a : HouseActT} (f : Fine h) (k : a.Kind = 7) (o : okTear h a.Rec a.Keep = true) : tearA h a.Rec a.Keep a.Torn = stepH h a := by
  obtain ⟨e1, e2⟩ := tearA_yes (r := a.Rec) (k := a.Keep) (torn := a.Torn) f.okHouse
  rw [e2]
  exact step7 k (e1.symm.trans o)
theorem stepS7n {h : HouseT} {a : HouseActT} (f : Fine h) (k : a.Kind = 7) (o : okTear h a.Rec a.Keep = false) : h = stepH h a := step7n k ((tearA_yes (r := a.Rec) (k := a.Keep) (torn := a.Torn) f.okHouse).1.symm.trans o)
theorem stepSA {h : HouseT} {a : HouseActT} (f : Fine h) (k : ¬ a.Kind = 7) (o : okA h (gaOf a) = true) : actA h (gaOf a) = stepH h a := by
  obtain ⟨e1, e2⟩ := actA_yes (a := gaOf a) f.okHouse
  rw [e2]
  exact stepA k (e1.symm.trans o)
theorem stepSAn {h : HouseT} {a : HouseActT} (f : Fine h) (k : ¬ a.Kind = 7) (o : okA h (gaOf a) = false) : h = stepH h a := stepAn k ((actA_yes (a := gaOf a) f.okHouse).1.symm.trans o)
theorem c_spec_PlayHouseT (H : HouseT) (acts : List HouseActT) (f : Fine H) (ha : okL HouseActT.ok acts) (hw : wL HouseActT.w acts <= 1048576) (hn : acts.length <= 120) : PC Tryz.prog true 10 [.agg H.cells, .sl (acts.map HouseActT.cells)] (.tup [.agg (playH H (acts.take acts.length)).cells, .bool true]) [] := by
  have hv : ∀ k, Fine (playH H (acts.take k)) := fun k => f.play
  have hy' : ∀ {k : Nat} {y : HouseActT}, acts[k]? = some y -> y.ok /\ y.w <= 1048576 := fun h => ⟨ha.2 _ (mgE h), by have := (wL_mem (w := HouseActT.w) (mgE h)).2; omega⟩
  have hg : okHouse H = true := f.okHouse
  refine pc_at Tryz.func10 rfl (by kernel_rfl) 61 [.cell 4 30, .tmp 5] rfl rfl ?_
  repeat' (conv => whnf); first
 | refine nameB_yes (b := okHouse H) hg ?_
 | (refine ix_as (f := HouseActT.cells) (m := k) rfl (by omega) (fun y hy => ?_))
 | (refine nameB_self (b := y.Torn) ?_)
 | (refine nameB_cases (b := okTear (playH H (acts.take k)) y.Rec y.Keep) (fun h => ?_) (fun h => ?_))
 | (refine nameB_cases (b := okA (playH H (acts.take k)) (gaOf y)) (fun h => ?_) (fun h => ?_))
 | refine nameB_false ?_
 | (refine nameB_dec (fun h => ?_) (fun h => ?_) <;> try simp only [lensB] at h)
 | refine splitB_true ?_
 | refine splitB_false ?_
 | ((refine Loop_frz [12304, 12305] ?_; refine Loop_at [1, 4, 6] [16] (Nat) (fun k => k <= acts.length) (fun k => [(7, .int .i64 (k : Nat))]) (fun k => [(12320, ⟨true, 30, 4, [(playH H (acts.take k)).cells]⟩)]) (fun k => acts.length - k) 0 ⟨by first | (simp_all <;> fail) | rfl | fail, trivial⟩ ⟨by first | rfl | first | rfl | (have e := (by first | exact (stepS7 (hv k) ‹_› ‹_›).trans (playH_next hy).symm | exact (stepSA (hv k) ‹_› ‹_›).trans (playH_next hy).symm | exact (stepS7n (hv k) ‹_› ‹_›).trans (playH_next hy).symm | exact (stepSAn (hv k) ‹_› ‹_›).trans (playH_next hy).symm : (_ : HouseT) = playH H (acts.take (k + 1))); exact congrArg (fun v : HouseT => some (AObj.mk (.box) 30 4 [v.cells])) e) | fail | fail, trivial⟩ (by (try dsimp only); first | (exact Nat.zero_le _) | fail) ?_; (conv => whnf); refine side_and (side_of (by first | exact fun k => rfl | exact fun k => by simp [headOk, closedE, closedO, closedL, AV.closed, hcap.closed, hasId, AObj.box, BK.ofB])) ?_; rintro k hT; try dsimp only at hT))
 | (refine Again_of (k + 1) ⟨by first | rfl | exact i64_next (by omega) | (simp_all <;> fail) | fail, trivial⟩ ⟨by first | rfl | first | rfl | (have e := (by first | exact (stepS7 (hv k) ‹_› ‹_›).trans (playH_next hy).symm | exact (stepSA (hv k) ‹_› ‹_›).trans (playH_next hy).symm | exact (stepS7n (hv k) ‹_› ‹_›).trans (playH_next hy).symm | exact (stepSAn (hv k) ‹_› ‹_›).trans (playH_next hy).symm : (_ : HouseT) = playH H (acts.take (k + 1))); exact congrArg (fun v : HouseT => some (AObj.mk (.box) 30 4 [v.cells])) e) | fail | fail, trivial⟩ (by first | (and_intros <;> first | rfl | trivial) | fail) (by first | (and_intros <;> first | rfl | trivial) | fail) rfl rfl rfl (by (try dsimp only); first | ((show k + 1 <= _; omega)) | fail) (show _ < _ by (try dsimp only); omega))
 | refine CallT (c_spec_l11Good H f.small.1 f.hb) rfl rfl rfl rfl (nbT rfl) ?_
 | refine CallT (c_spec_l11Own H f.hb) rfl rfl rfl rfl (nbT rfl) ?_
 | refine CallT (c_spec_TearHouse (playH H (acts.take k)) y.Rec y.Keep y.Torn (hv k).small.1 (hv k).hb (hy' hy).1.2.2.1 (hy' hy).2) rfl rfl rfl rfl (nbT rfl) ?_
 | refine CallT (c_spec_ActHouse (playH H (acts.take k)) (gaOf y) (hv k).small.1 (hv k).hb ⟨trivial, trivial, (hy' hy).1.2.2.1⟩ (hy' hy).2) rfl rfl rfl rfl (nbT rfl) ?_
 | refine sdA ⟨nbT rfl, rfl⟩ ?_
 | refine sdA (by first | exact nbT rfl | exact rfl | omega | fail) ?_
 | refine sdA (by first | (and_intros <;> first | rfl | omega | exact nbT rfl) | fail) ?_
 | fail
  all_goals
    conv => whnf
    first
    | (exfalso; omega)
    | (have e3 : k = acts.length := by omega
       subst e3
       exact OutA_plain rfl rfl rfl)
theorem c_spec_PlayHouse (H : HouseT) (acts : List HouseActT) (f : Fine H) (ha : okL HouseActT.ok acts) (hw : wL HouseActT.w acts <= 1048576) (hn : acts.length <= 120) : PC Tryz.prog true 10 [.agg H.cells, .sl (acts.map HouseActT.cells)] (.tup [.agg (playH H acts).cells, .bool true]) [] := by
  have := c_spec_PlayHouseT H acts f ha hw hn
  rw [List.take_length] at this
  exact this
theorem c_laws_vBegins (a b : List EntryT) (ha : okL EntryT.ok a) (hb : b.length <= 1048576) : PC Tryz.prog false 22 [.sl (a.map EntryT.cells), .sl (b.map EntryT.cells)] (.bool (preE a b)) [] := by
  have hla := ha.1
  refine pc_at Tryz.func22 rfl (by kernel_rfl) 42 [.tmp 4] rfl rfl ?_
  repeat' (conv => whnf); first
 | refine ix_map_at hx ?_
 | refine ix_map_at hy ?_
 | refine ix_as (f := EntryT.cells) (xs := a) (m := k) rfl (by omega) (fun x hx => ?_)
 | refine ix_as (f := EntryT.cells) (xs := b) (m := k) rfl (by omega) (fun y hy => ?_)
 | refine nameB_true ?_
 | refine nameB_false ?_
 | (refine nameB_dec (fun h => ?_) (fun h => ?_) <;> try simp only [lensB] at h)
 | (refine nameB_cases (fun h => ?_) (fun h => ?_) <;> try simp only [nmL, lensB] at h)
 | refine splitB_true ?_
 | refine splitB_false ?_
 | refine draw_text (by kernel_rfl) (by kernel_rfl) (by kernel_rfl) ?_
 | ((refine Loop_at [0, 1] [] (Nat) (fun k => a.take k = b.take k /\ k <= b.length) (fun k => [(5, .int .i64 (k : Nat))]) (fun k => []) (fun k => b.length - k) 0 ⟨by first | (simp_all <;> fail) | rfl | fail, trivial⟩ trivial (by (try dsimp only); first | (exact ⟨rfl, Nat.zero_le _⟩) | fail) ?_; (conv => whnf); refine side_and (side_of (by first | exact fun k => rfl | exact fun k => by simp [headOk, closedE, closedO, closedL, AV.closed, hcap.closed, hasId, AObj.box, BK.ofB])) ?_; rintro k hT; try dsimp only at hT))
 | (refine Again_of (k + 1) ⟨by first | rfl | exact i64_next (by omega) | (simp_all <;> fail) | fail, trivial⟩ trivial (by first | (and_intros <;> first | rfl | trivial) | fail) (by first | (and_intros <;> first | rfl | trivial) | fail) rfl rfl rfl (by (try dsimp only); first | (exact ⟨take_next hT.1 hx hy (EntryT.same ‹_› ‹_›), by omega⟩) | fail) (show _ < _ by (try dsimp only); omega))
 | refine CallD0 (c_spec_SameRec x.Rec y.Rec (ha.2 x (mgE hx)).2) rfl rfl rfl ?_
 | refine sdA (by first | exact nbT rfl | exact rfl | omega | fail) ?_
 | refine LoadK_of rfl rfl ?_
 | fail
  all_goals
    conv => whnf
    refine OutA_plain rfl rfl ?_
    first
    | exact congrArg AV.bool (preE_short (by omega)).symm
    | exact bool_yes (by have h9 : k = b.length := (by omega); have h8 := hT.1; rw [h9, List.take_length] at h8; exact h8)
    | exact bool_no (fun e => absurd (by have h9 := congrArg (fun l => l[k]?) e; simp only [List.getElem?_take_of_lt (show k < b.length by omega), hx, hy] at h9; exact Option.some.inj h9 : x = y) (by intro e; subst e; simp_all))
theorem c_laws_vLog (a b : List EntryT) (ha : okL EntryT.ok a) (hb : b.length <= 1048576) : PC Tryz.prog false 21 [.sl (a.map EntryT.cells), .sl (b.map EntryT.cells)] (.bool (decide (a = b))) [] := by
  refine pc_at Tryz.func21 rfl (by kernel_rfl) 15 [.tmp 4] rfl rfl ?_
  repeat' (conv => whnf); first
 | (refine nameB_dec (fun h => ?_) (fun h => ?_) <;> try simp only [lensB] at h)
 | refine splitB_true ?_
 | refine splitB_false ?_
 | refine Call0 (c_laws_vBegins a b ha hb) rfl rfl ?_
 | fail
  all_goals
    conv => whnf
    refine OutA_plain rfl rfl ?_
    first
    | exact bool_yes (by have h8 : List.take b.length a = b := by assumption
                         rw [show b.length = a.length by omega, List.take_length] at h8; exact h8)
    | exact bool_no (by intro e; subst e; simp_all)
theorem c_laws_vGroup (g : GroupT) (hok : g.ok) (hl : ∀ x ∈ g.Reps, x.Log.length <= 1048576) : PC Tryz.prog false 20 [.agg g.cells, .agg g.cells] (.bool true) [] := by
  have hgl := hok.1.1
  refine pc_at Tryz.func20 rfl (by kernel_rfl) 78 [.tmp 4] rfl rfl ?_
  repeat' (conv => whnf); first
 | refine ix_map_at hx ?_
 | refine ix_as (f := ReplicaT.cells) (xs := g.Reps) (m := k) rfl (by omega) (fun x hx => ?_)
 | refine nameB_self (b := x.Up) ?_
 | refine nameB_no (b := (x.Up != x.Up)) (by simp) ?_
 | refine nameB_yes (b := decide (x.Log = x.Log)) (by simp) ?_
 | refine nameB_false ?_
 | (refine nameB_dec (fun h => ?_) (fun h => ?_) <;> try simp only [lensB] at h)
 | (refine nameB_cases (fun h => ?_) (fun h => ?_) <;> try simp only [nmL, lensB] at h)
 | refine splitB_true ?_
 | refine splitB_false ?_
 | refine draw_text (by kernel_rfl) (by kernel_rfl) (by kernel_rfl) ?_
 | ((refine Loop_at [2, 3] [0, 16] (Nat) (fun k => k <= g.Reps.length) (fun k => [(5, .int .i64 (k : Nat))]) (fun k => []) (fun k => g.Reps.length - k) 0 ⟨by first | (simp_all <;> fail) | rfl | fail, trivial⟩ trivial (by (try dsimp only); first | (exact Nat.zero_le _) | fail) ?_; (conv => whnf); refine side_and (side_of (by first | exact fun k => rfl | exact fun k => by simp [headOk, closedE, closedO, closedL, AV.closed, hcap.closed, hasId, AObj.box, BK.ofB])) ?_; rintro k hT; try dsimp only at hT))
 | (refine Again_of (k + 1) ⟨by first | rfl | exact i64_next (by omega) | (simp_all <;> fail) | fail, trivial⟩ trivial (by first | (and_intros <;> first | rfl | trivial) | fail) (by first | (and_intros <;> first | rfl | trivial) | fail) rfl rfl rfl (by (try dsimp only); first | ((show k + 1 <= _; omega)) | fail) (show _ < _ by (try dsimp only); omega))
 | refine CallD0 (c_laws_vLog x.Log x.Log (hok.1.2 x (mgE hx)).2.1 (hl x (mgE hx))) rfl rfl rfl ?_
 | refine sdA (by first | exact nbT rfl | exact rfl | omega | fail) ?_
 | refine LoadK_of rfl rfl ?_
 | fail
  all_goals
    conv => whnf
    first
    | exact OutA_plain rfl rfl rfl
    | (exfalso; simp_all; done)
theorem c_laws_vHouse (H : HouseT) (hok : H.ok) (hl : ∀ x ∈ H.Group.Reps, x.Log.length <= 1048576) : PC Tryz.prog false 11 [.agg H.cells, .agg H.cells] (.bool true) [] := by
  have hdl := hok.2.1
  refine pc_at Tryz.func11 rfl (by kernel_rfl) 39 [.tmp 4] rfl rfl ?_
  repeat' (conv => whnf); first
 | refine ix_map_at hx ?_
 | refine ix_as (f := DiskT.cells) (xs := H.Disks) (m := k) rfl (by omega) (fun x hx => ?_)
 | refine nameB_true ?_
 | refine nameB_false ?_
 | (refine nameB_dec (fun h => ?_) (fun h => ?_) <;> try simp only [lensB] at h)
 | (refine nameB_cases (fun h => ?_) (fun h => ?_) <;> try simp only [nmL, lensB] at h)
 | refine splitB_true ?_
 | refine splitB_false ?_
 | refine draw_text (by kernel_rfl) (by kernel_rfl) (by kernel_rfl) ?_
 | ((refine Loop_at [2, 3] [0, 16] (Nat) (fun k => k <= H.Disks.length) (fun k => [(5, .int .i64 (k : Nat))]) (fun k => []) (fun k => H.Disks.length - k) 0 ⟨by first | (simp_all <;> fail) | rfl | fail, trivial⟩ trivial (by (try dsimp only); first | (exact Nat.zero_le _) | fail) ?_; (conv => whnf); refine side_and (side_of (by first | exact fun k => rfl | exact fun k => by simp [headOk, closedE, closedO, closedL, AV.closed, hcap.closed, hasId, AObj.box, BK.ofB])) ?_; rintro k hT; try dsimp only at hT))
 | (refine Again_of (k + 1) ⟨by first | rfl | exact i64_next (by omega) | (simp_all <;> fail) | fail, trivial⟩ trivial (by first | (and_intros <;> first | rfl | trivial) | fail) (by first | (and_intros <;> first | rfl | trivial) | fail) rfl rfl rfl (by (try dsimp only); first | ((show k + 1 <= _; omega)) | fail) (show _ < _ by (try dsimp only); omega))
 | refine Call0 (c_laws_vGroup H.Group hok.1 hl) rfl rfl ?_
 | refine sdA (by first | exact nbT rfl | exact rfl | omega | fail) ?_
 | refine side_and (side_of (show Go.Ab.structOk _ _ = true by kernel_rfl)) ?_
 | refine LoadK_of rfl rfl ?_
 | fail
  all_goals
    conv => whnf
    first
    | exact OutA_plain rfl rfl rfl
    | (exfalso; simp_all; done)
theorem fine_logs {h : HouseT} (f : Fine h) : ∀ x ∈ h.Group.Reps, x.Log.length <= 1048576 := fun x hx => by have := f.hb.log x hx; omega
theorem c_impl_NewHouse_n (n : Nat) (hn : n = 3 \/ n = 5) : PC Tryz.prog false 7 [.int .i64 (n : Int)] (.tup [.agg [.own 0, .int .i64 (newHouseN n).Group.Term, .int .i64 (newHouseN n).Group.Lead, .own 1], .bool true]) [⟨.deep ReplicaT.shp, 60, 3, (newHouseN n).Group.Reps.map ReplicaT.cells⟩, ⟨.deep DiskT.shp, 67, 2, (newHouseN n).Disks.map DiskT.cells⟩] := c_impl_NewHouse_yes n hn
theorem c_impl_PlayOne (H : HouseT) (a : HouseActT) (f : Fine H) (n : a.Rec.Reads = [] /\ a.Rec.Writes = []) : PC Tryz.prog false 9 [.agg H.cells, .sl [actC a]] (.tup [.agg [.own 0, .int .i64 (playH H [a]).Group.Term, .int .i64 (playH H [a]).Group.Lead, .own 1], .bool true]) [⟨.deep ReplicaT.shp, 60, 3, (playH H [a]).Group.Reps.map ReplicaT.cells⟩, ⟨.deep DiskT.shp, 67, 2, (playH H [a]).Disks.map DiskT.cells⟩] :=
  PC.actrow n.1 n.2 (c_impl_PlayHouse H [a] f (acts_ok n).1 (acts_ok n).2 (by show 1 <= _; decide))
theorem c_spec_PlayOne (H : HouseT) (a : HouseActT) (f : Fine H) (n : a.Rec.Reads = [] /\ a.Rec.Writes = []) : PC Tryz.prog true 10 [.agg H.cells, .sl [actC a]] (.tup [.agg (playH H [a]).cells, .bool true]) [] :=
  PC.actrow n.1 n.2 (c_spec_PlayHouse H [a] f (acts_ok n).1 (acts_ok n).2 (by show 1 <= _; decide))
theorem c_impl_NewGroup_D (n : Nat) (hn : n = 3 \/ n = 5) : PC Tryz.prog false 14 [.int .i64 (n : Int)] (.tup [.agg [.own 0, .int .i64 (newHouseN n).Group.Term, .int .i64 (newHouseN n).Group.Lead], .bool true]) [⟨.deep ReplicaT.shp, 60, 3, (newHouseN n).Group.Reps.map ReplicaT.cells⟩] := by
  refine pc_at Tryz.func14 rfl (by kernel_rfl) 13 [.cell 2 27, .tmp 3] rfl rfl ?_
  repeat' (conv => whnf); first
 | refine nameB_yes (b := isMany (n : Int)) (isMany_yes hn) ?_
 | refine nameB_false ?_
 | refine splitB_false ?_
 | refine Call0 (c_impl_isMany ..) rfl rfl ?_
 | refine CallX (c_Repeat_Replica n hn) [12304] rfl ⟨rfl, trivial⟩ rfl rfl rfl ?_
 | refine sdA (by first | (and_intros <;> first | exact nbT rfl | rfl | omega | (simp only [lensB, lensC]; omega) | exact bytes_ok (nbT rfl) (by omega) (by simp only [lensB, lensC]; omega) | exact bytes_okN (nbT rfl) (by simp only [lensB, lensC]; omega)) | fail) ?_
 | fail
  all_goals
    conv => whnf
    refine OutA_prom [(12336, ReplicaT.shp)] ⟨⟨_, _, _, rfl, flat_repR n⟩, trivial⟩ ?_
    conv => whnf
    refine OutA_deNil 12336 rfl rfl ?_
    conv => whnf
    exact OutA_deep rfl rfl rfl ⟨⟨congrArg (fun e => some (AObj.mk _ _ _ e)) (deN_map n), rfl⟩, trivial⟩ rfl
end Go.Proofs.YtjjjalcmcifncaaGreat
