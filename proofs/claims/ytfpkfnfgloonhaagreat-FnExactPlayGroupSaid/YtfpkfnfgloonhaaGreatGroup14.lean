/-
  What an advance gives.
  No condition.
-/
import Derived.Test.YtfpkfnfgloonhaaGreatGroup13
namespace Go.Proofs.YtfpkfnfgloonhaaGreat
open Go.Ab
set_option linter.unusedSimpArgs false
set_option maxRecDepth 20000
set_option maxHeartbeats 4000000
set_option linter.unusedVariables false

theorem preE_of {a b : List EntryT} {n : Nat} (hb : n ≤ b.length) : preE a (b.take n) = decide (a.take n = b.take n) := by
  unfold preE
  rw [List.length_take, Nat.min_eq_left hb]
theorem preE_len {a b : List EntryT} {n : Nat} (hb : n ≤ b.length) (h : (n : Int) > (a.length : Int)) : preE a (b.take n) = false := by
  rw [preE_of hb]
  refine decide_eq_false fun e => ?_
  have := congrArg List.length e
  rw [List.length_take, List.length_take] at this
  omega
theorem c_spec_l9Begins (a b : List EntryT) (n : Nat) (ha : okL EntryT.ok a) (hla : a.length ≤ 1048576) (hlb : b.length ≤ 1048576) (hn : n ≤ b.length) : PC Tryz.prog false 136 [.sl (a.map EntryT.cells), .sl (b.map EntryT.cells), .int .i64 (n : Nat)] (.bool (preE a (b.take n))) [] := by
  refine pc_at Tryz.func136 rfl (by kernel_rfl) 48 [.tmp 6] rfl rfl ?_
  repeat' (conv => whnf); first
    | refine ix_map_at hx ?_
    | refine ix_map_at hy ?_
    | refine ix_as (f := EntryT.cells) (xs := a) (m := k) rfl (by omega) (fun x hx => ?_)
    | refine ix_as (f := EntryT.cells) (xs := b) (m := k) rfl (by omega) (fun y hy => ?_)
    | refine nameB_self (b := x.Rec.Yes) ?_
    | refine nameB_self (b := y.Rec.Yes) ?_
    | refine nameB_true ?_
    | refine nameB_false ?_
    | refine nameB_yes (by assumption) ?_
    | refine nameB_no (by assumption) ?_
    | refine nameB_dyes (by assumption) ?_
    | refine nameB_dno (by assumption) ?_
    | (refine nameB_dec (fun h => ?_) (fun h => ?_) <;> try simp only [lensB, midL_len, mkL_length, Int.toNat_natCast, fact_byte] at h)
    | (refine nameB_cases (fun h => ?_) (fun h => ?_) <;> try simp only [bne_iff_ne, ne_eq, bne_eq_false_iff_eq, beq_iff_eq, beq_eq_false_iff_ne, Bool.not_eq_true', Bool.not_eq_false', Bool.or_eq_true, Bool.or_eq_false_iff, lensB, midL_len, mkL_length, Int.toNat_natCast, fact_byte] at h)
    | refine splitB_true ?_
    | refine splitB_false ?_
    | (refine splitB_intro (fun h => ?_) (fun h => ?_) <;> subst h)
    | refine draw_text (by kernel_rfl) (by kernel_rfl) (by kernel_rfl) ?_
    | refine both_intro ?_ ?_
    | refine eitherB_l ?_
    | exact True.intro
    | (show Go.Ab.Loop _ _ _; (refine Loop_at [0, 1, 2] [] (Nat) (fun k => a.take k = b.take k ∧ k ≤ n) (fun k => [(7, .int .i64 (k : Nat))]) (fun k => []) (fun k => n - k) 0 ⟨by first | (simp_all <;> fail) | rfl | fail, trivial⟩ trivial (by (try dsimp only); first | trivial | (refine ⟨?_, by omega⟩; simp <;> fail) | (simp <;> fail) | fail) ?_; (conv => whnf); refine side_and (side_of (by first | exact fun k => rfl | exact fun k => by simp [headOk, closedE, closedO, closedL, AV.closed, hcap.closed, hasId, AObj.box, BK.ofB])) ?_; rintro k hT; try dsimp only at hT))
    | (show Go.Ab.Again _ _ _ _ _ _ _ _ _ _ _; refine Again_of (k + 1) ⟨by first | rfl | exact i64_next (by omega) | (simp_all <;> fail) | fail, trivial⟩ trivial (by first | (and_intros <;> first | rfl | trivial) | fail) (by first | (and_intros <;> first | rfl | trivial) | fail) rfl rfl rfl (by (try dsimp only); first | (exact ⟨take_next hT.1 hx hy (EntryT.same (by assumption) (by assumption)), by omega⟩) | fail) (show _ < _ by (try dsimp only); omega))
    | (show Go.Ab.CallA _ _ _ _ _ _ _; refine Call0 (c_spec_l9SameRec x.Rec y.Rec (ha.2 x (List.mem_of_getElem? hx)).2) rfl rfl ?_)
    | (show Go.Ab.CallD _ _ _ _ _ _ _; refine CallD0 (c_spec_l9SameRec x.Rec y.Rec (ha.2 x (List.mem_of_getElem? hx)).2) rfl rfl rfl ?_)
    | refine ix_map_at hx ?_
    | refine ix_map_at hy ?_
    | refine sl_pre (by omega) (fun _ => rfl) ?_
    | refine sl_suf (by omega) (fun _ => rfl) ?_
    | (refine ix_map2 hx (by omega) (by (try simp only [List.length_take]); omega) (fun y hy => ?_); try simp only [Int.toNat_natCast] at hy)
    | (refine ix_map (by omega) (by (try simp only [List.length_take]); omega) (fun x hx => ?_); try simp only [Int.toNat_natCast] at hx)
    | refine side_and (side_of (by first | (and_intros <;> first | exact Nat.le_of_ble_eq_true rfl | rfl | omega | (simp only [lensB, lensC, List.length_replicate, midL_len, mkL_length]; omega) | exact bytes_ok (Nat.le_of_ble_eq_true rfl) (by omega) (by simp only [lensB, lensC, List.length_replicate, midL_len, mkL_length]; omega) | exact bytes_okN (Nat.le_of_ble_eq_true rfl) (by simp only [lensB, lensC, List.length_replicate, midL_len, mkL_length]; omega)) | fail)) ?_
    | refine nilB_intro (fun h => ?_) ?_
    | refine side_and (side_of (show Go.Ab.structOk _ _ = true by kernel_rfl)) ?_
    | refine side_and (side_of (map_len (fun _ => rfl))) ?_
    | refine side_and (side_of (map_one (fun _ => rfl) _)) ?_
    | refine side_and ?_ ?_
    | refine LoadK_of rfl rfl ?_
    | refine LoadD_cel rfl rfl rfl rfl ?_
    | refine LoadD_of rfl ?_
    | refine StoreD_of rfl rfl rfl ?_
    | refine AppD_of rfl (by and_intros <;> first | rfl | decide) (by simp only [lensC]; first | (refine ⟨by omega, ?_⟩; refine Nat.le_trans (Nat.mul_le_mul_left _ (show _ ≤ 512 by decide)) ?_; omega) | fail) ?_
    | refine AppN_of rfl rfl (by and_intros <;> rfl) (by simp only [lensC]; first | (refine ⟨by omega, ?_⟩; refine Nat.le_trans (Nat.mul_le_mul_left _ (show _ ≤ 512 by decide)) ?_; omega) | fail) ?_
    | (show False; omega)
  all_goals
    conv => whnf
    refine OutA_plain rfl rfl ?_
    first
    | exact congrArg AV.bool (preE_len hn (by assumption)).symm
    | exact congrArg AV.bool ((preE_of hn).trans (decide_eq_true (by have h9 : k = n := (by omega); rw [← h9]; exact hT.1))).symm
    | exact congrArg AV.bool ((preE_of hn).trans (decide_eq_false (fun e => absurd (by have h9 := congrArg (fun l => l[k]?) e; simp only [List.getElem?_take_of_lt (show k < n by omega), hx, hy] at h9; exact Option.some.inj h9 : x = y) (by intro e; subst e; simp_all)))).symm
    | (exfalso; omega)
theorem c_spec_l9Many (g : GroupT) (b : List EntryT) (n : Nat) (hok : g.ok) (hw : GB g) (hlb : b.length ≤ 1048576) (hn : n ≤ b.length) : PC Tryz.prog false 141 [.agg g.cells, .sl (b.map EntryT.cells), .int .i64 (n : Nat)] (.int .i64 (cntR (fun x => preE x.Log (b.take n)) g.Reps : Nat)) [] := by
  have hl := reps_len hw
  refine pc_at Tryz.func141 rfl (by kernel_rfl) 28 [.tmp 6] rfl rfl ?_
  repeat' (conv => whnf); first
    | refine nameB_self (b := x.Up) ?_
    | (refine nameB_cases (b := preE x.Log (b.take n)) (fun h => ?_) (fun h => ?_))
    | refine nameB_true ?_
    | refine nameB_false ?_
    | refine nameB_yes (by assumption) ?_
    | refine nameB_no (by assumption) ?_
    | refine nameB_dyes (by assumption) ?_
    | refine nameB_dno (by assumption) ?_
    | (refine nameB_dec (fun h => ?_) (fun h => ?_) <;> try simp only [lensB, midL_len, mkL_length, Int.toNat_natCast, fact_byte] at h)
    | (refine nameB_cases (fun h => ?_) (fun h => ?_) <;> try simp only [bne_iff_ne, ne_eq, bne_eq_false_iff_eq, beq_iff_eq, beq_eq_false_iff_ne, Bool.not_eq_true', Bool.not_eq_false', Bool.or_eq_true, Bool.or_eq_false_iff, lensB, midL_len, mkL_length, Int.toNat_natCast, fact_byte] at h)
    | refine splitB_true ?_
    | refine splitB_false ?_
    | (refine splitB_intro (fun h => ?_) (fun h => ?_) <;> subst h)
    | refine draw_text (by kernel_rfl) (by kernel_rfl) (by kernel_rfl) ?_
    | refine both_intro ?_ ?_
    | refine eitherB_l ?_
    | exact True.intro
    | (show Go.Ab.Loop _ _ _; (refine Loop_at [1, 2, 3] [0] (Nat) (fun k => k ≤ g.Reps.length) (fun k => [(7, .int .i64 (cntR (fun x => preE x.Log (b.take n)) (g.Reps.take k) : Nat)), (8, .int .i64 (k : Nat))]) (fun k => []) (fun k => g.Reps.length - k) 0 ⟨by first | first | rfl | exact congrArg (AV.int .i64) (cntR_inc (q := fun x => preE x.Log (b.take n)) hl hx (by assumption)) | exact congrArg (fun n : Nat => AV.int .i64 (n : Int)) (cntR_no (q := fun x => preE x.Log (b.take n)) hx (by assumption)).symm | rfl | fail, by first | first | rfl | exact congrArg (AV.int .i64) (cntR_inc (q := fun x => preE x.Log (b.take n)) hl hx (by assumption)) | exact congrArg (fun n : Nat => AV.int .i64 (n : Int)) (cntR_no (q := fun x => preE x.Log (b.take n)) hx (by assumption)).symm | rfl | fail, trivial⟩ trivial (by (try dsimp only); first | (exact Nat.zero_le _) | fail) ?_; (conv => whnf); refine side_and (side_of (by first | exact fun k => rfl | exact fun k => by simp [headOk, closedE, closedO, closedL, AV.closed, hcap.closed, hasId, AObj.box, BK.ofB])) ?_; rintro k hT; try dsimp only at hT))
    | (show Go.Ab.Again _ _ _ _ _ _ _ _ _ _ _; refine Again_of (k + 1) ⟨by first | first | rfl | exact congrArg (AV.int .i64) (cntR_inc (q := fun x => preE x.Log (b.take n)) hl hx (by assumption)) | exact congrArg (fun n : Nat => AV.int .i64 (n : Int)) (cntR_no (q := fun x => preE x.Log (b.take n)) hx (by assumption)).symm | rfl | fail, by first | rfl | exact i64_next (by omega) | first | rfl | exact congrArg (AV.int .i64) (cntR_inc (q := fun x => preE x.Log (b.take n)) hl hx (by assumption)) | exact congrArg (fun n : Nat => AV.int .i64 (n : Int)) (cntR_no (q := fun x => preE x.Log (b.take n)) hx (by assumption)).symm | fail, trivial⟩ trivial (by first | (and_intros <;> first | rfl | trivial) | fail) (by first | (and_intros <;> first | rfl | trivial) | fail) rfl rfl rfl (by (try dsimp only); first | ((show k + 1 ≤ _; omega)) | fail) (show _ < _ by (try dsimp only); omega))
    | (show Go.Ab.CallA _ _ _ _ _ _ _; refine Call0 (c_spec_l9Begins x.Log b n (hok.1.2 x (List.mem_of_getElem? hx)).2.1 (Nat.le_trans (wL_len (w := EntryT.w)) (rep_w hw (List.mem_of_getElem? hx))) hlb hn) rfl rfl ?_)
    | refine ix_map_at hx ?_
    | refine ix_map_at hy ?_
    | refine sl_pre (by omega) (fun _ => rfl) ?_
    | refine sl_suf (by omega) (fun _ => rfl) ?_
    | (refine ix_map2 hx (by omega) (by (try simp only [List.length_take]); omega) (fun y hy => ?_); try simp only [Int.toNat_natCast] at hy)
    | (refine ix_map (by omega) (by (try simp only [List.length_take]); omega) (fun x hx => ?_); try simp only [Int.toNat_natCast] at hx)
    | refine side_and (side_of (by first | (and_intros <;> first | exact Nat.le_of_ble_eq_true rfl | rfl | omega | (simp only [lensB, lensC, List.length_replicate, midL_len, mkL_length]; omega) | exact bytes_ok (Nat.le_of_ble_eq_true rfl) (by omega) (by simp only [lensB, lensC, List.length_replicate, midL_len, mkL_length]; omega) | exact bytes_okN (Nat.le_of_ble_eq_true rfl) (by simp only [lensB, lensC, List.length_replicate, midL_len, mkL_length]; omega)) | fail)) ?_
    | refine nilB_intro (fun h => ?_) ?_
    | refine side_and (side_of (show Go.Ab.structOk _ _ = true by kernel_rfl)) ?_
    | refine side_and (side_of (map_len (fun _ => rfl))) ?_
    | refine side_and (side_of (map_one (fun _ => rfl) _)) ?_
    | refine side_and ?_ ?_
    | refine LoadK_of rfl rfl ?_
    | refine LoadD_cel rfl rfl rfl rfl ?_
    | refine LoadD_of rfl ?_
    | refine StoreD_of rfl rfl rfl ?_
    | refine AppD_of rfl (by and_intros <;> first | rfl | decide) (by simp only [lensC]; first | (refine ⟨by omega, ?_⟩; refine Nat.le_trans (Nat.mul_le_mul_left _ (show _ ≤ 512 by decide)) ?_; omega) | fail) ?_
    | refine AppN_of rfl rfl (by and_intros <;> rfl) (by simp only [lensC]; first | (refine ⟨by omega, ?_⟩; refine Nat.le_trans (Nat.mul_le_mul_left _ (show _ ≤ 512 by decide)) ?_; omega) | fail) ?_
    | (show False; omega)
  all_goals
    conv => whnf
    refine OutA_plain rfl rfl ?_
    exact congrArg (fun n : Nat => AV.int .i64 (n : Int)) (cntR_end (by assumption))
def termAt (l : List EntryT) (n : Nat) : Int := match l[n]? with | some e => e.Term | none => 0
theorem termAt_of {l : List EntryT} {n : Nat} {e : EntryT} (h : l[n]? = some e) : termAt l n = e.Term := by unfold termAt; rw [h]
def hit (g : GroupT) (l : ReplicaT) (m : Nat) : Bool := decide (termAt l.Log (m - 1) = g.Term) && most g (fun x => preE x.Log (l.Log.take m))
def adv (g : GroupT) (l : ReplicaT) : Nat → Int
  | 0 => l.Sure
  | m + 1 => if ((m + 1 : Nat) : Int) > l.Sure then (if hit g l (m + 1) = true then ((m + 1 : Nat) : Int) else adv g l m) else l.Sure
theorem adv_stop {g : GroupT} {l : ReplicaT} {m : Nat} (h : ¬ (m : Int) > l.Sure) : adv g l m = l.Sure := by
  cases m with
  | zero => rfl
  | succ m => unfold adv; rw [if_neg h]
theorem adv_hit {g : GroupT} {l : ReplicaT} {m : Nat} (h0 : 0 ≤ l.Sure) (h : (m : Int) > l.Sure) (h1 : hit g l m = true) : adv g l m = (m : Int) := by
  cases m with
  | zero => omega
  | succ m => unfold adv; rw [if_pos h, if_pos h1]
theorem adv_go {g : GroupT} {l : ReplicaT} {m : Nat} (h0 : 0 ≤ l.Sure) (h : (m : Int) > l.Sure) (h1 : hit g l m = false) : adv g l (m - 1) = adv g l m := by
  cases m with
  | zero => omega
  | succ m => conv => rhs; unfold adv
              rw [if_pos h, if_neg (by rw [h1]; simp)]
              rfl
theorem hit_yes {g : GroupT} {l : ReplicaT} {m : Nat} {e : EntryT} (he : l.Log[m - 1]? = some e) (h1 : e.Term = g.Term) (h2 : most g (fun x => preE x.Log (l.Log.take m)) = true) : hit g l m = true := by unfold hit; rw [termAt_of he, h2, decide_eq_true h1]; rfl
theorem hit_no1 {g : GroupT} {l : ReplicaT} {m : Nat} {e : EntryT} (he : l.Log[m - 1]? = some e) (h1 : ¬ e.Term = g.Term) : hit g l m = false := by unfold hit; rw [termAt_of he, decide_eq_false h1]; rfl
theorem hit_no2 {g : GroupT} {l : ReplicaT} {m : Nat} (h2 : most g (fun x => preE x.Log (l.Log.take m)) = false) : hit g l m = false := by unfold hit; rw [h2]; simp
def okAdv (g : GroupT) : Bool := okGroup g && !decide (g.Lead < 0)
def advS (g : GroupT) : Int := match g.Reps[g.Lead.toNat]? with | some l => adv g l l.Log.length | none => 0
theorem advS_of {g : GroupT} {l : ReplicaT} (h : g.Reps[g.Lead.toNat]? = some l) : advS g = adv g l l.Log.length := by unfold advS; rw [h]
def advR (g : GroupT) : GroupT := resG (okAdv g) ⟨setRep g g.Lead (fun y => { y with Sure := advS g }), g.Term, g.Lead⟩
theorem advR_yes {g : GroupT} (h : okAdv g = true) : advR g = ⟨setRep g g.Lead (fun y => { y with Sure := advS g }), g.Term, g.Lead⟩ := by rw [advR, resG_yes h]
theorem advR_no {g : GroupT} (h : okAdv g = false) : advR g = ⟨[], 0, 0⟩ := by rw [advR, resG_no h]; rfl
theorem okAdv_yes {g : GroupT} (h1 : okGroup g = true) (h2 : ¬ g.Lead < 0) : okAdv g = true := by unfold okAdv; rw [h1, decide_eq_false h2]; rfl
theorem okAdv_no {g : GroupT} (h : okGroup g = false ∨ g.Lead < 0) : okAdv g = false := by
  unfold okAdv
  rcases h with h | h
  · rw [h]; rfl
  · rw [decide_eq_true h]; simp
theorem adv_cells {g : GroupT} {l : ReplicaT} {n : Int} (hl : g.Reps[g.Lead.toNat]? = some l) (hn : adv g l l.Log.length = n) : [.bool l.Up, .sl (l.Log.map EntryT.cells), .int .i64 n] = (({ l with Sure := advS g } : ReplicaT)).cells := by
  rw [advS_of hl, hn]
  rfl
theorem adv_same {g : GroupT} {l : ReplicaT} (hl : g.Reps[g.Lead.toNat]? = some l) (hn : adv g l l.Log.length = l.Sure) : g.Reps.map ReplicaT.cells = (setRep g g.Lead (fun y => { y with Sure := advS g })).map ReplicaT.cells := by
  rw [← setRep_cells (f := fun y => { y with Sure := advS g }) hl (adv_cells hl hn)]
  have h8 : (g.Reps.map ReplicaT.cells)[g.Lead.toNat]? = some l.cells := by rw [List.getElem?_map, hl]; rfl
  have h9 : (g.Reps.map ReplicaT.cells).set g.Lead.toNat l.cells = g.Reps.map ReplicaT.cells := by
    obtain ⟨q, e⟩ := List.getElem?_eq_some_iff.1 h8
    rw [← e]
    exact List.set_getElem_self q
  exact h9.symm
theorem okG_sure {g : GroupT} {l : ReplicaT} {n : Nat} (h : okGroup g = true) (hl : g.Reps[n]? = some l) : 0 ≤ l.Sure := by
  unfold okGroup at h
  simp only [Bool.and_eq_true, List.all_eq_true] at h
  have h2 := h.2 l (List.mem_of_getElem? hl)
  unfold okRep at h2
  simp only [Bool.and_eq_true] at h2
  exact (inB_sp h2.2).1
theorem dec_eq {m : Nat} {s : Int} (hm : m ≤ 1048576) (h0 : 0 ≤ s) (h : (m : Int) > s) : IntKind.i64.wrap ((m : Int) - 1) = ((m - 1 : Nat) : Int) := by
  rw [i64_wrap (by omega) (by omega)]
  omega
end Go.Proofs.YtfpkfnfgloonhaaGreat
