/-
  What an advance gives.
  No condition.
-/
import Derived.Test.YtfpkfnfgloonhaaGreatGroup13
namespace Go.Proofs.YtfpkfnfgloonhaaGreat
open Go.Ab
set_option linter.unusedSimpArgs false
set_option maxRecDepth 20000
set_option maxHeartbeats 4000000
set_option linter.unusedVariables false

theorem preE_of {a b : List EntryT} {n : Nat} (hb : n ≤ b.length) : preE a (b.take n) = decide (a.take n = b.take n) := by
  unfold preE
  rw [List.length_take, Nat.min_eq_left hb]
theorem preE_len {a b : List EntryT} {n : Nat} (hb : n ≤ b.length) (h : (n : Int) > (a.length : Int)) : preE a (b.take n) = false := by
  rw [preE_of hb]
  refine decide_eq_false fun e => ?_
  have := congrArg List.length e
  rw [List.length_take, List.length_take] at this
  omega
theorem c_spec_l9Begins (a b : List EntryT) (n : Nat) (ha : okL EntryT.ok a) (hla : a.length ≤ 1048576) (hlb : b.length ≤ 1048576) (hn : n ≤ b.length) : PC Tryz.prog false 136 [.sl (a.map EntryT.cells), .sl (b.map EntryT.cells), .int .i64 (n : Nat)] (.bool (preE a (b.take n))) [] := by
  refine pc_at Tryz.func136 rfl (by kernel_rfl) 48 [.tmp 6] rfl rfl ?_
  repeat' (conv => whnf); first
    | refine ix_map_at hx ?_
    | refine ix_map_at hy ?_
    | refine ix_as (f := EntryT.cells) (xs := a) (m := k) rfl (by omega) (fun x hx => ?_)
    | refine ix_as (f := EntryT.cells) (xs := b) (m := k) rfl (by omega) (fun y hy => ?_)
    | refine nameB_self (b := x.Rec.Yes) ?_
    | refine nameB_self (b := y.Rec.Yes) ?_
    | refine nameB_true ?_
    | refine nameB_false ?_
    | refine nameB_yes (by assumption) ?_
    | refine nameB_no (by assumption) ?_
    | refine nameB_dyes (by assumption) ?_
    | refine nameB_dno (by assumption) ?_
    | (refine nameB_dec (fun h => ?_) (fun h => ?_) <;> try simp only [lensB, midL_len, mkL_length, Int.toNat_natCast, fact_byte] at h)
    | (refine nameB_cases (fun h => ?_) (fun h => ?_) <;> try simp only [bne_iff_ne, ne_eq, bne_eq_false_iff_eq, beq_iff_eq, beq_eq_false_iff_ne, Bool.not_eq_true', Bool.not_eq_false', Bool.or_eq_true, Bool.or_eq_false_iff, lensB, midL_len, mkL_length, Int.toNat_natCast, fact_byte] at h)
    | refine splitB_true ?_
    | refine splitB_false ?_
    | (refine splitB_intro (fun h => ?_) (fun h => ?_) <;> subst h)
    | refine draw_text (by kernel_rfl) (by kernel_rfl) (by kernel_rfl) ?_
    | refine both_intro ?_ ?_
    | refine eitherB_l ?_
    | exact True.intro
    | (show Go.Ab.Loop _ _ _; (refine Loop_at [0, 1, 2] [] (Nat) (fun k => a.take k = b.take k ∧ k ≤ n) (fun k => [(7, .int .i64 (k : Nat))]) (fun k => []) (fun k => n - k) 0 ⟨by first | (simp_all <;> fail) | rfl | fail, trivial⟩ trivial (by (try dsimp only); first | trivial | (refine ⟨?_, by omega⟩; simp <;> fail) | (simp <;> fail) | fail) ?_; (conv => whnf); refine side_and (side_of (by first | exact fun k => rfl | exact fun k => by simp [headOk, closedE, closedO, closedL, AV.closed, hcap.closed, hasId, AObj.box, BK.ofB])) ?_; rintro k hT; try dsimp only at hT))
    | (show Go.Ab.Again _ _ _ _ _ _ _ _ _ _ _; refine Again_of (k + 1) ⟨by first | rfl | exact i64_next (by omega) | (simp_all <;> fail) | fail, trivial⟩ trivial (by first | (and_intros <;> first | rfl | trivial) | fail) (by first | (and_intros <;> first | rfl | trivial) | fail) rfl rfl rfl (by (try dsimp only); first | (exact ⟨take_next hT.1 hx hy (EntryT.same (by assumption) (by assumption)), by omega⟩) | fail) (show _ < _ by (try dsimp only); omega))
    | (show Go.Ab.CallA _ _ _ _ _ _ _; refine Call0 (c_spec_l9SameRec x.Rec y.Rec (ha.2 x (List.mem_of_getElem? hx)).2) rfl rfl ?_)
    | (show Go.Ab.CallD _ _ _ _ _ _ _; refine CallD0 (c_spec_l9SameRec x.Rec y.Rec (ha.2 x (List.mem_of_getElem? hx)).2) rfl rfl rfl ?_)
    | refine ix_map_at hx ?_
    | refine ix_map_at hy ?_
    | refine sl_pre (by omega) (fun _ => rfl) ?_
    | refine sl_suf (by omega) (fun _ => rfl) ?_
    | (refine ix_map2 hx (by omega) (by (try simp only [List.length_take]); omega) (fun y hy => ?_); try simp only [Int.toNat_natCast] at hy)
    | (refine ix_map (by omega) (by (try simp only [List.length_take]); omega) (fun x hx => ?_); try simp only [Int.toNat_natCast] at hx)
    | refine side_and (side_of (by first | (and_intros <;> first | exact Nat.le_of_ble_eq_true rfl | rfl | omega | (simp only [lensB, lensC, List.length_replicate, midL_len, mkL_length]; omega) | exact bytes_ok (Nat.le_of_ble_eq_true rfl) (by omega) (by simp only [lensB, lensC, List.length_replicate, midL_len, mkL_length]; omega) | exact bytes_okN (Nat.le_of_ble_eq_true rfl) (by simp only [lensB, lensC, List.length_replicate, midL_len, mkL_length]; omega)) | fail)) ?_
    | refine nilB_intro (fun h => ?_) ?_
    | refine side_and (side_of (show Go.Ab.structOk _ _ = true by kernel_rfl)) ?_
    | refine side_and (side_of (map_len (fun _ => rfl))) ?_
    | refine side_and (side_of (map_one (fun _ => rfl) _)) ?_
    | refine side_and ?_ ?_
    | refine LoadK_of rfl rfl ?_
    | refine LoadD_cel rfl rfl rfl rfl ?_
    | refine LoadD_of rfl ?_
    | refine StoreD_of rfl rfl rfl ?_
    | refine AppD_of rfl (by and_intros <;> first | rfl | decide) (by simp only [lensC]; first | (refine ⟨by omega, ?_⟩; refine Nat.le_trans (Nat.mul_le_mul_left _ (show _ ≤ 512 by decide)) ?_; omega) | fail) ?_
    | refine AppN_of rfl rfl (by and_intros <;> rfl) (by simp only [lensC]; first | (refine ⟨by omega, ?_⟩; refine Nat.le_trans (Nat.mul_le_mul_left _ (show _ ≤ 512 by decide)) ?_; omega) | fail) ?_
    | (show False; omega)
  all_goals
    conv => whnf
    refine OutA_plain rfl rfl ?_
    first
    | exact congrArg AV.bool (preE_len hn (by assumption)).symm
    | exact congrArg AV.bool ((preE_of hn).trans (decide_eq_true (by have h9 : k = n := (by omega); rw [← h9]; exact hT.1))).symm
    | exact congrArg AV.bool ((preE_of hn).trans (decide_eq_false (fun e => absurd (by have h9 := congrArg (fun l => l[k]?) e; simp only [List.getElem?_take_of_lt (show k < n by omega), hx, hy] at h9; exact Option.some.inj h9 : x = y) (by intro e; subst e; simp_all)))).symm
    | (exfalso; omega)
def termAt (l : List EntryT) (n : Nat) : Int := match l[n]? with | some e => e.Term | none => 0
def hit (g : GroupT) (l : ReplicaT) (m : Nat) : Bool := decide (termAt l.Log (m - 1) = g.Term) && most g (fun x => preE x.Log (l.Log.take m))
def adv (g : GroupT) (l : ReplicaT) : Nat → Int
  | 0 => l.Sure
  | m + 1 => if ((m + 1 : Nat) : Int) > l.Sure then (if hit g l (m + 1) = true then ((m + 1 : Nat) : Int) else adv g l m) else l.Sure
def okAdv (g : GroupT) : Bool := okGroup g && !decide (g.Lead < 0)
def advS (g : GroupT) : Int := match g.Reps[g.Lead.toNat]? with | some l => adv g l l.Log.length | none => 0
def advR (g : GroupT) : GroupT := resG (okAdv g) ⟨setRep g g.Lead (fun y => { y with Sure := advS g }), g.Term, g.Lead⟩
end Go.Proofs.YtfpkfnfgloonhaaGreat
