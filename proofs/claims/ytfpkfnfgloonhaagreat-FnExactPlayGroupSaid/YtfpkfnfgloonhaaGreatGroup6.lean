/-
  What a crash of a replica gives.
  No condition.
-/
import Derived.Test.YtfpkfnfgloonhaaGreatGroup4
import Derived.Test.YtfpkfnfgloonhaaGreatGroup5
namespace Go.Proofs.YtfpkfnfgloonhaaGreat
open Go.Ab
set_option linter.unusedSimpArgs false
set_option maxRecDepth 20000
set_option maxHeartbeats 4000000
set_option linter.unusedVariables false

def okUp (g : GroupT) (r : Int) (up : Bool) : Bool := okGroup g && (isRep g r && (upAt g r == up))
def zeroG : GroupT := ⟨[], 0, 0⟩
theorem zeroG_ok : zeroG.ok := ⟨⟨Nat.zero_le _, fun _ h => by cases h⟩, trivial, trivial⟩
def setRep (g : GroupT) (r : Int) (f : ReplicaT → ReplicaT) : List ReplicaT := match g.Reps[r.toNat]? with | some y => g.Reps.set r.toNat (f y) | none => g.Reps
theorem setRep_of {g : GroupT} {r : Int} {y : ReplicaT} {f : ReplicaT → ReplicaT} (h : g.Reps[r.toNat]? = some y) : setRep g r f = g.Reps.set r.toNat (f y) := by
  unfold setRep
  rw [h]
theorem setRep_cells {g : GroupT} {r : Int} {y : ReplicaT} {f : ReplicaT → ReplicaT} {c : List AV} (h : g.Reps[r.toNat]? = some y) (hc : c = (f y).cells) : (g.Reps.map ReplicaT.cells).set r.toNat c = (setRep g r f).map ReplicaT.cells := by
  rw [setRep_of h, List.map_set, hc]
theorem ix_own {α : Type} {f : α → List AV} {xs : List α} {n : Nat} {Q : List AV → Prop} (h : n < xs.length) (hQ : ∀ x, xs[n]? = some x → Q (f x)) : ∃ e, (xs.map f)[n]? = some e ∧ Q e :=
  ⟨f xs[n], by simp [h], hQ _ (by simp [h])⟩
theorem ix_ownat {α : Type} {f : α → List AV} {xs : List α} {n : Nat} {x : α} {Q : List AV → Prop} (hx : xs[n]? = some x) (hQ : Q (f x)) : ∃ e, (xs.map f)[n]? = some e ∧ Q e := ⟨f x, by simp [hx], hQ⟩
def crashN (g : GroupT) (r : Int) : GroupT := ⟨setRep g r fun y => { y with Up := false }, g.Term, if g.Lead = r then -1 else g.Lead⟩
def resG (b : Bool) (g : GroupT) : GroupT := match b with | true => g | false => zeroG
def crashR (g : GroupT) (r : Int) : GroupT := resG (okUp g r true) (crashN g r)
theorem resG_yes {b : Bool} {g : GroupT} (h : b = true) : resG b g = g := by rw [h]; rfl
theorem resG_no {b : Bool} {g : GroupT} (h : b = false) : resG b g = zeroG := by rw [h]; rfl
theorem c_spec_l9Up (g : GroupT) (r : Int) (up : Bool) (hok : g.ok) (hw : GB g) : PC Tryz.prog false 133 [.agg g.cells, .int .i64 r, .bool up] (.bool (okUp g r up)) [] := by
  have hl := reps_len hw
  have hs : IntKind.i64.wrap ((g.Reps.length : Int) - 1) = (g.Reps.length : Int) - 1 := i64_wrap (by omega) (by omega)
  refine pc_at Tryz.func133 rfl (by kernel_rfl) 27 [.tmp 6] rfl rfl ?_
  repeat' (conv => whnf); first
    | refine ix_as (f := ReplicaT.cells) (m := r.toNat) (by have h9 := isRep_lt (g := g) (n := r) (by assumption); omega) (by have h9 := isRep_lt (g := g) (n := r) (by assumption); omega) (fun y hy => ?_)
    | refine ix_as (f := ReplicaT.cells) (m := r.toNat) (by have h9 := isRep_lt (g := g) (n := r) (by unfold isRep; rw [← hs]; assumption); omega) (by have h9 := isRep_lt (g := g) (n := r) (by unfold isRep; rw [← hs]; assumption); omega) (fun y hy => ?_)
    | refine nameB_self (b := y.Up) ?_
    | refine nameB_self (b := up) ?_
    | refine nameB_self (b := y.Up == up) ?_
    | (refine nameB_cases (b := okGroup g) (fun h => ?_) (fun h => ?_))
    | refine nameB_true ?_
    | refine nameB_false ?_
    | refine nameB_yes (by assumption) ?_
    | refine nameB_no (by assumption) ?_
    | refine nameB_dyes (by assumption) ?_
    | refine nameB_dno (by assumption) ?_
    | (refine nameB_dec (fun h => ?_) (fun h => ?_) <;> try simp only [lensB, midL_len, mkL_length, Int.toNat_natCast, fact_byte] at h)
    | (refine nameB_cases (fun h => ?_) (fun h => ?_) <;> try simp only [bne_iff_ne, ne_eq, bne_eq_false_iff_eq, beq_iff_eq, beq_eq_false_iff_ne, Bool.not_eq_true', Bool.not_eq_false', Bool.or_eq_true, Bool.or_eq_false_iff, lensB, midL_len, mkL_length, Int.toNat_natCast, fact_byte] at h)
    | refine splitB_true ?_
    | refine splitB_false ?_
    | (refine splitB_intro (fun h => ?_) (fun h => ?_) <;> subst h)
    | refine draw_text (by kernel_rfl) (by kernel_rfl) (by kernel_rfl) ?_
    | refine both_intro ?_ ?_
    | refine eitherB_l ?_
    | exact True.intro
    | (show Go.Ab.CallA _ _ _ _ _ _ _; first
        | refine Call0 (c_spec_GoodGroup g hok hw) rfl rfl ?_
        | refine Call0 (c_spec_l1In ..) rfl rfl ?_)
    | refine ix_map_at hx ?_
    | refine ix_map_at hy ?_
    | refine sl_pre (by omega) (fun _ => rfl) ?_
    | refine sl_suf (by omega) (fun _ => rfl) ?_
    | (refine ix_map2 hx (by omega) (by (try simp only [List.length_take]); omega) (fun y hy => ?_); try simp only [Int.toNat_natCast] at hy)
    | (refine ix_map (by omega) (by (try simp only [List.length_take]); omega) (fun x hx => ?_); try simp only [Int.toNat_natCast] at hx)
    | refine side_and (side_of (by first | (and_intros <;> first | exact Nat.le_of_ble_eq_true rfl | rfl | omega | (simp only [lensB, lensC, List.length_replicate, midL_len, mkL_length]; omega) | exact bytes_ok (Nat.le_of_ble_eq_true rfl) (by omega) (by simp only [lensB, lensC, List.length_replicate, midL_len, mkL_length]; omega) | exact bytes_okN (Nat.le_of_ble_eq_true rfl) (by simp only [lensB, lensC, List.length_replicate, midL_len, mkL_length]; omega)) | fail)) ?_
    | refine nilB_intro (fun h => ?_) ?_
    | refine side_and (side_of (show Go.Ab.structOk _ _ = true by kernel_rfl)) ?_
    | refine side_and (side_of (map_len (fun _ => rfl))) ?_
    | refine side_and (side_of (map_one (fun _ => rfl) _)) ?_
    | refine side_and ?_ ?_
    | refine LoadK_of rfl rfl ?_
    | refine LoadD_cel rfl rfl rfl rfl ?_
    | refine LoadD_of rfl ?_
    | refine StoreD_of rfl rfl rfl ?_
    | refine AppD_of rfl (by and_intros <;> first | rfl | decide) (by simp only [lensC]; first | (refine ⟨by omega, ?_⟩; refine Nat.le_trans (Nat.mul_le_mul_left _ (show _ ≤ 512 by decide)) ?_; omega) | fail) ?_
    | refine AppN_of rfl rfl (by and_intros <;> rfl) (by simp only [lensC]; first | (refine ⟨by omega, ?_⟩; refine Nat.le_trans (Nat.mul_le_mul_left _ (show _ ≤ 512 by decide)) ?_; omega) | fail) ?_
    | (show False; omega)
  all_goals
    (try have hyu := upAt_of hy)
    conv => whnf
    refine OutA_plain rfl rfl ?_
    first
    | (simp_all [okUp, isRep, named, AV.sub, AV.sub.subL]; done)
theorem crash_tup {g : GroupT} {r : Int} {y : ReplicaT} {L : Int} {c : List AV} (h : okUp g r true = true) (hy : g.Reps[r.toNat]? = some y) (hl : L = if g.Lead = r then -1 else g.Lead) (hc : c = ({ y with Up := false } : ReplicaT).cells) :
    AV.tup [.agg [.sl ((g.Reps.map ReplicaT.cells).set r.toNat c), .int .i64 g.Term, .int .i64 L], .bool true] = .tup [.agg (crashR g r).cells, .bool (okUp g r true)] := by
  rw [crashR, resG_yes h, h, hl, setRep_cells (f := fun y => { y with Up := false }) hy hc]
  rfl
theorem okUp_lt {g : GroupT} {r : Int} {b : Bool} (h : okUp g r b = true) : 0 ≤ r ∧ r.toNat < g.Reps.length := by
  unfold okUp at h
  simp only [Bool.and_eq_true] at h
  exact isRep_lt h.2.1
theorem okUp_side {g : GroupT} {r : Int} {b : Bool} (h : okUp g r b = true) : 0 ≤ r ∧ r < ((g.Reps.map ReplicaT.cells).length : Int) := by
  have := okUp_lt h
  rw [List.length_map]
  omega
theorem c_spec_CrashRep (g : GroupT) (r : Int) (hok : g.ok) (hw : GB g) : PC Tryz.prog true 81 [.agg g.cells, .int .i64 r] (.tup [.agg (crashR g r).cells, .bool (okUp g r true)]) [] := by
  have hl := reps_len hw
  refine pc_at Tryz.func81 rfl (by kernel_rfl) 25 [.cell 4 38, .tmp 5] rfl rfl ?_
  repeat' (conv => whnf); first
    | exact side_of (okUp_side (b := true) (by assumption))
    | refine ix_own (f := ReplicaT.cells) (xs := g.Reps) (okUp_lt (b := true) (by assumption)).2 (fun y hy => ?_)
    | (refine nameB_cases (b := okUp g r true) (fun h => ?_) (fun h => ?_))
    | refine nameB_true ?_
    | refine nameB_false ?_
    | refine nameB_yes (by assumption) ?_
    | refine nameB_no (by assumption) ?_
    | refine nameB_dyes (by assumption) ?_
    | refine nameB_dno (by assumption) ?_
    | (refine nameB_dec (fun h => ?_) (fun h => ?_) <;> try simp only [lensB, midL_len, mkL_length, Int.toNat_natCast, fact_byte] at h)
    | (refine nameB_cases (fun h => ?_) (fun h => ?_) <;> try simp only [bne_iff_ne, ne_eq, bne_eq_false_iff_eq, beq_iff_eq, beq_eq_false_iff_ne, Bool.not_eq_true', Bool.not_eq_false', Bool.or_eq_true, Bool.or_eq_false_iff, lensB, midL_len, mkL_length, Int.toNat_natCast, fact_byte] at h)
    | refine splitB_true ?_
    | refine splitB_false ?_
    | (refine splitB_intro (fun h => ?_) (fun h => ?_) <;> subst h)
    | refine draw_text (by kernel_rfl) (by kernel_rfl) (by kernel_rfl) ?_
    | refine both_intro ?_ ?_
    | refine eitherB_l ?_
    | exact True.intro
    | (show Go.Ab.CallA _ _ _ _ _ _ _; first
        | refine Call0 (c_spec_l9Up g r true hok hw) rfl rfl ?_
        | refine CallT (c_spec_l9Own g hw) rfl rfl rfl rfl (Nat.le_of_ble_eq_true rfl) ?_)
    | refine ix_map_at hx ?_
    | refine ix_map_at hy ?_
    | refine sl_pre (by omega) (fun _ => rfl) ?_
    | refine sl_suf (by omega) (fun _ => rfl) ?_
    | (refine ix_map2 hx (by omega) (by (try simp only [List.length_take]); omega) (fun y hy => ?_); try simp only [Int.toNat_natCast] at hy)
    | (refine ix_map (by omega) (by (try simp only [List.length_take]); omega) (fun x hx => ?_); try simp only [Int.toNat_natCast] at hx)
    | refine side_and (side_of (by first | (and_intros <;> first | exact Nat.le_of_ble_eq_true rfl | rfl | omega | (simp only [lensB, lensC, List.length_replicate, midL_len, mkL_length]; omega) | exact bytes_ok (Nat.le_of_ble_eq_true rfl) (by omega) (by simp only [lensB, lensC, List.length_replicate, midL_len, mkL_length]; omega) | exact bytes_okN (Nat.le_of_ble_eq_true rfl) (by simp only [lensB, lensC, List.length_replicate, midL_len, mkL_length]; omega)) | fail)) ?_
    | refine nilB_intro (fun h => ?_) ?_
    | refine side_and (side_of (show Go.Ab.structOk _ _ = true by kernel_rfl)) ?_
    | refine side_and (side_of (map_len (fun _ => rfl))) ?_
    | refine side_and (side_of (map_one (fun _ => rfl) _)) ?_
    | refine side_and ?_ ?_
    | refine LoadK_of rfl rfl ?_
    | refine LoadD_cel rfl rfl rfl rfl ?_
    | refine LoadD_of rfl ?_
    | refine StoreD_of rfl rfl rfl ?_
    | refine AppD_of rfl (by and_intros <;> first | rfl | decide) (by simp only [lensC]; first | (refine ⟨by omega, ?_⟩; refine Nat.le_trans (Nat.mul_le_mul_left _ (show _ ≤ 512 by decide)) ?_; omega) | fail) ?_
    | refine AppN_of rfl rfl (by and_intros <;> rfl) (by simp only [lensC]; first | (refine ⟨by omega, ?_⟩; refine Nat.le_trans (Nat.mul_le_mul_left _ (show _ ≤ 512 by decide)) ?_; omega) | fail) ?_
    | (show False; omega)
  all_goals
    conv => whnf
    first
    | (refine OutA_frz [12304] ?_; (conv => whnf); refine OutA_plain rfl rfl ?_; first | exact crash_tup (by assumption) hy (if_pos (by assumption)).symm rfl | exact crash_tup (by assumption) hy (if_neg (by assumption)).symm rfl)
    | (rw [crashR, resG_no (by assumption), (by assumption : okUp g r true = false)]; refine OutA_nilB 16 1 90 3 0 rfl rfl rfl (by decide) ?_; refine OutA_frz [1] ?_; (conv => whnf); exact OutA_plain rfl rfl rfl)
theorem crashR_yes1 {g : GroupT} {r : Int} (h : okUp g r true = true) (h1 : g.Lead = r) : crashR g r = ⟨setRep g r fun y => { y with Up := false }, g.Term, -1⟩ := by rw [crashR, resG_yes h, crashN, if_pos h1]
theorem crashR_yes2 {g : GroupT} {r : Int} (h : okUp g r true = true) (h1 : ¬ g.Lead = r) : crashR g r = ⟨setRep g r fun y => { y with Up := false }, g.Term, g.Lead⟩ := by rw [crashR, resG_yes h, crashN, if_neg h1]
theorem crashR_no {g : GroupT} {r : Int} (h : okUp g r true = false) : crashR g r = ⟨[], 0, 0⟩ := by rw [crashR, resG_no h]; rfl
theorem upI {g : GroupT} {r : Int} (h1 : okGroup g = true) (h2 : isRep g r = true) (h3 : upAt g r = true) : okUp g r true = true := by unfold okUp; rw [h1, h2, h3]; rfl
theorem upI_no {g : GroupT} {r : Int} (h : okGroup g = false ∨ isRep g r = false ∨ upAt g r = false) : okUp g r true = false := by
  unfold okUp
  rcases h with h | h | h <;> simp [h]
theorem isRep_side {g : GroupT} {r : Int} (h : isRep g r = true) : 0 ≤ r ∧ r < ((g.Reps.map ReplicaT.cells).length : Int) := by
  have := isRep_lt h
  rw [List.length_map]
  omega
theorem c_impl_CrashRep (g : GroupT) (r : Int) (hok : g.ok) (hw : GB g) : PC Tryz.prog false 109 [.agg g.cells, .int .i64 r] (.tup [.agg [.own 0, .int .i64 (crashR g r).Term, .int .i64 (crashR g r).Lead], .bool (okUp g r true)]) [⟨.deep ReplicaT.shp, 90, 3, (crashR g r).Reps.map ReplicaT.cells⟩] := by
  have hl := reps_len hw
  refine pc_at Tryz.func109 rfl (by kernel_rfl) 39 [.cell 4 38, .tmp 5] rfl rfl ?_
  repeat' (conv => whnf); first
    | refine ix_as (f := ReplicaT.cells) (m := r.toNat) (by have h9 := isRep_lt (g := g) (n := r) (by assumption); omega) (by have h9 := isRep_lt (g := g) (n := r) (by assumption); omega) (fun y hy => ?_)
    | refine nameB_self (b := y.Up) ?_
    | exact side_of (isRep_side (by assumption))
    | refine ix_ownat (f := ReplicaT.cells) (xs := g.Reps) hy ?_
    | (refine nameB_cases (b := okGroup g) (fun h => ?_) (fun h => ?_))
    | (refine nameB_cases (b := isRep g r) (fun h => ?_) (fun h => ?_))
    | (refine nameB_cases (b := y.Up) (fun h => ?_) (fun h => ?_))
    | refine nameB_true ?_
    | refine nameB_false ?_
    | refine nameB_yes (by assumption) ?_
    | refine nameB_no (by assumption) ?_
    | refine nameB_dyes (by assumption) ?_
    | refine nameB_dno (by assumption) ?_
    | (refine nameB_dec (fun h => ?_) (fun h => ?_) <;> try simp only [lensB, midL_len, mkL_length, Int.toNat_natCast, fact_byte] at h)
    | (refine nameB_cases (fun h => ?_) (fun h => ?_) <;> try simp only [bne_iff_ne, ne_eq, bne_eq_false_iff_eq, beq_iff_eq, beq_eq_false_iff_ne, Bool.not_eq_true', Bool.not_eq_false', Bool.or_eq_true, Bool.or_eq_false_iff, lensB, midL_len, mkL_length, Int.toNat_natCast, fact_byte] at h)
    | refine splitB_true ?_
    | refine splitB_false ?_
    | (refine splitB_intro (fun h => ?_) (fun h => ?_) <;> subst h)
    | refine draw_text (by kernel_rfl) (by kernel_rfl) (by kernel_rfl) ?_
    | refine both_intro ?_ ?_
    | refine eitherB_l ?_
    | exact True.intro
    | (show Go.Ab.CallA _ _ _ _ _ _ _; first
        | refine Call0 (c_impl_GoodGroup g hok hw) rfl rfl ?_
        | refine Call0 (c_impl_Group_isRep g r hw) rfl rfl ?_
        | refine CallF (c_impl_copyGroup g hw) rfl rfl rfl (Nat.le_of_ble_eq_true rfl) ?_)
    | refine ix_map_at hx ?_
    | refine ix_map_at hy ?_
    | refine sl_pre (by omega) (fun _ => rfl) ?_
    | refine sl_suf (by omega) (fun _ => rfl) ?_
    | (refine ix_map2 hx (by omega) (by (try simp only [List.length_take]); omega) (fun y hy => ?_); try simp only [Int.toNat_natCast] at hy)
    | (refine ix_map (by omega) (by (try simp only [List.length_take]); omega) (fun x hx => ?_); try simp only [Int.toNat_natCast] at hx)
    | refine side_and (side_of (by first | (and_intros <;> first | exact Nat.le_of_ble_eq_true rfl | rfl | omega | (simp only [lensB, lensC, List.length_replicate, midL_len, mkL_length]; omega) | exact bytes_ok (Nat.le_of_ble_eq_true rfl) (by omega) (by simp only [lensB, lensC, List.length_replicate, midL_len, mkL_length]; omega) | exact bytes_okN (Nat.le_of_ble_eq_true rfl) (by simp only [lensB, lensC, List.length_replicate, midL_len, mkL_length]; omega)) | fail)) ?_
    | refine nilB_intro (fun h => ?_) ?_
    | refine side_and (side_of (show Go.Ab.structOk _ _ = true by kernel_rfl)) ?_
    | refine side_and (side_of (map_len (fun _ => rfl))) ?_
    | refine side_and (side_of (map_one (fun _ => rfl) _)) ?_
    | refine side_and ?_ ?_
    | refine LoadK_of rfl rfl ?_
    | refine LoadD_cel rfl rfl rfl rfl ?_
    | refine LoadD_of rfl ?_
    | refine StoreD_of rfl rfl rfl ?_
    | refine AppD_of rfl (by and_intros <;> first | rfl | decide) (by simp only [lensC]; first | (refine ⟨by omega, ?_⟩; refine Nat.le_trans (Nat.mul_le_mul_left _ (show _ ≤ 512 by decide)) ?_; omega) | fail) ?_
    | refine AppN_of rfl rfl (by and_intros <;> rfl) (by simp only [lensC]; first | (refine ⟨by omega, ?_⟩; refine Nat.le_trans (Nat.mul_le_mul_left _ (show _ ≤ 512 by decide)) ?_; omega) | fail) ?_
    | (show False; omega)
  all_goals
    (try have hyu := upAt_of hy)
    conv => whnf
    first
    | (have h0 : okUp g r true = true := upI (by assumption) (by assumption) (hyu.trans (by assumption)); first | (rw [h0, crashR_yes1 h0 (by assumption)]; exact OutA_deep rfl rfl rfl ⟨⟨congrArg (fun e => some (AObj.mk _ _ _ e)) (setRep_cells (f := fun y => { y with Up := false }) hy rfl), rfl⟩, trivial⟩ rfl) | (rw [h0, crashR_yes2 h0 (by assumption)]; exact OutA_deep rfl rfl rfl ⟨⟨congrArg (fun e => some (AObj.mk _ _ _ e)) (setRep_cells (f := fun y => { y with Up := false }) hy rfl), rfl⟩, trivial⟩ rfl))
    | (have h0 : okUp g r true = false := upI_no (by first | exact .inl (by assumption) | exact .inr (.inl (by assumption)) | exact .inr (.inr (hyu.trans (by assumption)))); rw [h0, crashR_no h0]; refine OutA_nilB 16 1 90 3 0 rfl rfl rfl (by decide) ?_; refine OutA_prom [(1, ReplicaT.shp)] ⟨⟨_, _, _, rfl, prom_nil⟩, trivial⟩ ?_; (conv => whnf); exact OutA_deep rfl rfl rfl ⟨⟨rfl, rfl⟩, trivial⟩ rfl)
end Go.Proofs.YtfpkfnfgloonhaaGreat
