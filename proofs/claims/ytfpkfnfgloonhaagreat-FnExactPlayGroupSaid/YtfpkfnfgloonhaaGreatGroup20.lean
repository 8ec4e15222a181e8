/-
  What one action of a group gives.
  No condition.
-/
import Derived.Test.YtfpkfnfgloonhaaGreatGroup23
import Derived.Test.YtfpkfnfgloonhaaGreatGroup17
import Derived.Test.YtfpkfnfgloonhaaGreatGroup15
import Derived.Test.YtfpkfnfgloonhaaGreatGroup11
import Derived.Test.YtfpkfnfgloonhaaGreatGroup9
import Derived.Test.YtfpkfnfgloonhaaGreatTypesG
namespace Go.Proofs.YtfpkfnfgloonhaaGreat
open Go.Ab
set_option linter.unusedSimpArgs false
set_option maxRecDepth 20000
set_option maxHeartbeats 4000000
set_option linter.unusedVariables false

def actG (g : GroupT) (a : GroupActT) : GroupT :=
  if a.Kind = 1 then crashR g a.Rep else if a.Kind = 2 then startR g a.Rep else if a.Kind = 3 then electR g a.Rep else if a.Kind = 4 then putR g a.Rec else if a.Kind = 5 then copyR g a.Rep else if a.Kind = 6 then advR g else zeroG
def okAct (g : GroupT) (a : GroupActT) : Bool :=
  if a.Kind = 1 then okUp g a.Rep true else if a.Kind = 2 then okUp g a.Rep false else if a.Kind = 3 then okElect g a.Rep else if a.Kind = 4 then okPut g a.Rec else if a.Kind = 5 then okCopy g a.Rep else if a.Kind = 6 then okAdv g else false
theorem act1 {g : GroupT} {a : GroupActT} (h : a.Kind = 1) : actG g a = crashR g a.Rep ∧ okAct g a = okUp g a.Rep true := by simp [actG, okAct, h]
theorem act2 {g : GroupT} {a : GroupActT} (h : a.Kind = 2) : actG g a = startR g a.Rep ∧ okAct g a = okUp g a.Rep false := by simp [actG, okAct, h]
theorem act3 {g : GroupT} {a : GroupActT} (h : a.Kind = 3) : actG g a = electR g a.Rep ∧ okAct g a = okElect g a.Rep := by simp [actG, okAct, h]
theorem act4 {g : GroupT} {a : GroupActT} (h : a.Kind = 4) : actG g a = putR g a.Rec ∧ okAct g a = okPut g a.Rec := by simp [actG, okAct, h]
theorem act5 {g : GroupT} {a : GroupActT} (h : a.Kind = 5) : actG g a = copyR g a.Rep ∧ okAct g a = okCopy g a.Rep := by simp [actG, okAct, h]
theorem act6 {g : GroupT} {a : GroupActT} (h : a.Kind = 6) : actG g a = advR g ∧ okAct g a = okAdv g := by simp [actG, okAct, h]
theorem act0 {g : GroupT} {a : GroupActT} (h1 : ¬ a.Kind = 1) (h2 : ¬ a.Kind = 2) (h3 : ¬ a.Kind = 3) (h4 : ¬ a.Kind = 4) (h5 : ¬ a.Kind = 5) (h6 : ¬ a.Kind = 6) : actG g a = zeroG ∧ okAct g a = false := by simp [actG, okAct, h1, h2, h3, h4, h5, h6]
theorem rec_len {r : RecT} (h : r.w ≤ 1048576) : r.Reads.length ≤ 1048576 ∧ r.Writes.length ≤ 1048576 := ⟨(ent_len (e := ⟨0, r⟩) h).2, (ent_len (e := ⟨0, r⟩) h).1⟩
theorem c_spec_l9Do (g : GroupT) (a : GroupActT) (hok : g.ok) (hw : GB g) (aok : a.ok) (haw : a.w ≤ 1048576) : PC Tryz.prog true 46 [.agg g.cells, .agg a.cells] (.tup [.agg (actG g a).cells, .bool (okAct g a)]) [] := by
  have hr : a.Rec.w ≤ 1048576 := haw
  refine pc_at Tryz.func46 rfl (by kernel_rfl) 55 [.cell 4 38, .tmp 5] rfl rfl ?_
  repeat' (conv => whnf); first
    | refine nameB_self (b := a.Rec.Yes) ?_
    | refine nameB_self (b := okUp g a.Rep true) ?_
    | refine nameB_self (b := okUp g a.Rep false) ?_
    | refine nameB_self (b := okElect g a.Rep) ?_
    | refine nameB_self (b := okPut g a.Rec) ?_
    | refine nameB_self (b := okCopy g a.Rep) ?_
    | refine nameB_self (b := okAdv g) ?_
    | refine nameB_true ?_
    | refine nameB_false ?_
    | refine nameB_yes (by assumption) ?_
    | refine nameB_no (by assumption) ?_
    | refine nameB_dyes (by assumption) ?_
    | refine nameB_dno (by assumption) ?_
    | (refine nameB_dec (fun h => ?_) (fun h => ?_) <;> try simp only [lensB, midL_len, mkL_length, Int.toNat_natCast, fact_byte] at h)
    | (refine nameB_cases (fun h => ?_) (fun h => ?_) <;> try simp only [bne_iff_ne, ne_eq, bne_eq_false_iff_eq, beq_iff_eq, beq_eq_false_iff_ne, Bool.not_eq_true', Bool.not_eq_false', Bool.or_eq_true, Bool.or_eq_false_iff, lensB, midL_len, mkL_length, Int.toNat_natCast, fact_byte] at h)
    | refine splitB_true ?_
    | refine splitB_false ?_
    | (refine splitB_intro (fun h => ?_) (fun h => ?_) <;> subst h)
    | refine draw_text (by kernel_rfl) (by kernel_rfl) (by kernel_rfl) ?_
    | refine both_intro ?_ ?_
    | refine eitherB_l ?_
    | exact True.intro
    | (show Go.Ab.CallA _ _ _ _ _ _ _; first
        | refine CallT (c_spec_CrashRep g a.Rep hok hw) rfl rfl rfl rfl (Nat.le_of_ble_eq_true rfl) ?_
        | refine CallT (c_spec_StartRep g a.Rep hok hw) rfl rfl rfl rfl (Nat.le_of_ble_eq_true rfl) ?_
        | refine CallT (c_spec_ElectRep g a.Rep hok hw) rfl rfl rfl rfl (Nat.le_of_ble_eq_true rfl) ?_
        | refine CallF (c_spec_PutEntryD g a.Rec hok hw aok.2.2 (rec_len hr).1 (rec_len hr).2) rfl rfl rfl (Nat.le_of_ble_eq_true rfl) ?_
        | refine CallT (c_spec_CopyTo g a.Rep hok hw) rfl rfl rfl rfl (Nat.le_of_ble_eq_true rfl) ?_
        | refine CallT (c_spec_Advance g hok hw) rfl rfl rfl rfl (Nat.le_of_ble_eq_true rfl) ?_)
    | refine ix_map_at hx ?_
    | refine ix_map_at hy ?_
    | refine sl_pre (by omega) (fun _ => rfl) ?_
    | refine sl_suf (by omega) (fun _ => rfl) ?_
    | (refine ix_map2 hx (by omega) (by (try simp only [List.length_take]); omega) (fun y hy => ?_); try simp only [Int.toNat_natCast] at hy)
    | (refine ix_map (by omega) (by (try simp only [List.length_take]); omega) (fun x hx => ?_); try simp only [Int.toNat_natCast] at hx)
    | refine side_and (side_of (by first | (and_intros <;> first | exact Nat.le_of_ble_eq_true rfl | rfl | omega | (simp only [lensB, lensC, List.length_replicate, midL_len, mkL_length]; omega) | exact bytes_ok (Nat.le_of_ble_eq_true rfl) (by omega) (by simp only [lensB, lensC, List.length_replicate, midL_len, mkL_length]; omega) | exact bytes_okN (Nat.le_of_ble_eq_true rfl) (by simp only [lensB, lensC, List.length_replicate, midL_len, mkL_length]; omega)) | fail)) ?_
    | refine nilB_intro (fun h => ?_) ?_
    | refine side_and (side_of (show Go.Ab.structOk _ _ = true by kernel_rfl)) ?_
    | refine side_and (side_of (map_len (fun _ => rfl))) ?_
    | refine side_and (side_of (map_one (fun _ => rfl) _)) ?_
    | refine side_and ?_ ?_
    | refine LoadK_of rfl rfl ?_
    | refine LoadD_cel rfl rfl rfl rfl ?_
    | refine LoadD_of rfl ?_
    | refine StoreD_of rfl rfl rfl ?_
    | refine AppD_of rfl (by and_intros <;> first | rfl | decide) (by simp only [lensC]; first | (refine ⟨by omega, ?_⟩; refine Nat.le_trans (Nat.mul_le_mul_left _ (show _ ≤ 512 by decide)) ?_; omega) | fail) ?_
    | refine AppN_of rfl rfl (by and_intros <;> rfl) (by simp only [lensC]; first | (refine ⟨by omega, ?_⟩; refine Nat.le_trans (Nat.mul_le_mul_left _ (show _ ≤ 512 by decide)) ?_; omega) | fail) ?_
    | (show False; omega)
  all_goals
    conv => whnf
    first
    | (obtain ⟨e1, e2⟩ := act1 (g := g) (a := a) (by assumption); rw [e1, e2]; exact OutA_plain rfl rfl rfl)
    | (obtain ⟨e1, e2⟩ := act2 (g := g) (a := a) (by assumption); rw [e1, e2]; exact OutA_plain rfl rfl rfl)
    | (obtain ⟨e1, e2⟩ := act3 (g := g) (a := a) (by assumption); rw [e1, e2]; exact OutA_plain rfl rfl rfl)
    | (obtain ⟨e1, e2⟩ := act5 (g := g) (a := a) (by assumption); rw [e1, e2]; exact OutA_plain rfl rfl rfl)
    | (obtain ⟨e1, e2⟩ := act6 (g := g) (a := a) (by assumption); rw [e1, e2]; exact OutA_plain rfl rfl rfl)
    | (obtain ⟨e1, e2⟩ := act4 (g := g) (a := a) (by assumption); rw [e1, e2]; refine OutA_frz [36912] ?_; (conv => whnf); exact OutA_plain rfl rfl rfl)
    | (obtain ⟨e1, e2⟩ := act0 (g := g) (a := a) (by assumption) (by assumption) (by assumption) (by assumption) (by assumption) (by assumption); rw [e1, e2]; refine OutA_nilB 32 1 90 3 0 rfl rfl rfl (by decide) ?_; refine OutA_frz [1] ?_; (conv => whnf); exact OutA_plain rfl rfl rfl)
theorem c_impl_doGroup (g : GroupT) (a : GroupActT) (hok : g.ok) (hw : GB g) (aok : a.ok) (haw : a.w ≤ 1048576) : PC Tryz.prog false 71 [.agg g.cells, .agg a.cells] (.tup [.agg [.own 0, .int .i64 (actG g a).Term, .int .i64 (actG g a).Lead], .bool (okAct g a)]) [⟨.deep ReplicaT.shp, 90, 3, (actG g a).Reps.map ReplicaT.cells⟩] := by
  have hr : a.Rec.w ≤ 1048576 := haw
  refine pc_at Tryz.func71 rfl (by kernel_rfl) 55 [.cell 4 38, .tmp 5] rfl rfl ?_
  repeat' (conv => whnf); first
    | refine nameB_self (b := a.Rec.Yes) ?_
    | refine nameB_self (b := okUp g a.Rep true) ?_
    | refine nameB_self (b := okUp g a.Rep false) ?_
    | refine nameB_self (b := okElect g a.Rep) ?_
    | refine nameB_self (b := okPut g a.Rec) ?_
    | refine nameB_self (b := okCopy g a.Rep) ?_
    | refine nameB_self (b := okAdv g) ?_
    | refine nameB_true ?_
    | refine nameB_false ?_
    | refine nameB_yes (by assumption) ?_
    | refine nameB_no (by assumption) ?_
    | refine nameB_dyes (by assumption) ?_
    | refine nameB_dno (by assumption) ?_
    | (refine nameB_dec (fun h => ?_) (fun h => ?_) <;> try simp only [lensB, midL_len, mkL_length, Int.toNat_natCast, fact_byte] at h)
    | (refine nameB_cases (fun h => ?_) (fun h => ?_) <;> try simp only [bne_iff_ne, ne_eq, bne_eq_false_iff_eq, beq_iff_eq, beq_eq_false_iff_ne, Bool.not_eq_true', Bool.not_eq_false', Bool.or_eq_true, Bool.or_eq_false_iff, lensB, midL_len, mkL_length, Int.toNat_natCast, fact_byte] at h)
    | refine splitB_true ?_
    | refine splitB_false ?_
    | (refine splitB_intro (fun h => ?_) (fun h => ?_) <;> subst h)
    | refine draw_text (by kernel_rfl) (by kernel_rfl) (by kernel_rfl) ?_
    | refine both_intro ?_ ?_
    | refine eitherB_l ?_
    | exact True.intro
    | (show Go.Ab.CallA _ _ _ _ _ _ _; first
        | refine CallF (c_impl_CrashRep g a.Rep hok hw) rfl rfl rfl (Nat.le_of_ble_eq_true rfl) ?_
        | refine CallF (c_impl_StartRep g a.Rep hok hw) rfl rfl rfl (Nat.le_of_ble_eq_true rfl) ?_
        | refine CallF (c_impl_ElectRep g a.Rep hok hw) rfl rfl rfl (Nat.le_of_ble_eq_true rfl) ?_
        | refine CallF (c_impl_PutEntry g a.Rec hok hw aok.2.2 (rec_len hr).1 (rec_len hr).2) rfl rfl rfl (Nat.le_of_ble_eq_true rfl) ?_
        | refine CallF (c_impl_CopyTo g a.Rep hok hw) rfl rfl rfl (Nat.le_of_ble_eq_true rfl) ?_
        | refine CallF (c_impl_Advance g hok hw) rfl rfl rfl (Nat.le_of_ble_eq_true rfl) ?_)
    | refine ix_map_at hx ?_
    | refine ix_map_at hy ?_
    | refine sl_pre (by omega) (fun _ => rfl) ?_
    | refine sl_suf (by omega) (fun _ => rfl) ?_
    | (refine ix_map2 hx (by omega) (by (try simp only [List.length_take]); omega) (fun y hy => ?_); try simp only [Int.toNat_natCast] at hy)
    | (refine ix_map (by omega) (by (try simp only [List.length_take]); omega) (fun x hx => ?_); try simp only [Int.toNat_natCast] at hx)
    | refine side_and (side_of (by first | (and_intros <;> first | exact Nat.le_of_ble_eq_true rfl | rfl | omega | (simp only [lensB, lensC, List.length_replicate, midL_len, mkL_length]; omega) | exact bytes_ok (Nat.le_of_ble_eq_true rfl) (by omega) (by simp only [lensB, lensC, List.length_replicate, midL_len, mkL_length]; omega) | exact bytes_okN (Nat.le_of_ble_eq_true rfl) (by simp only [lensB, lensC, List.length_replicate, midL_len, mkL_length]; omega)) | fail)) ?_
    | refine nilB_intro (fun h => ?_) ?_
    | refine side_and (side_of (show Go.Ab.structOk _ _ = true by kernel_rfl)) ?_
    | refine side_and (side_of (map_len (fun _ => rfl))) ?_
    | refine side_and (side_of (map_one (fun _ => rfl) _)) ?_
    | refine side_and ?_ ?_
    | refine LoadK_of rfl rfl ?_
    | refine LoadD_cel rfl rfl rfl rfl ?_
    | refine LoadD_of rfl ?_
    | refine StoreD_of rfl rfl rfl ?_
    | refine AppD_of rfl (by and_intros <;> first | rfl | decide) (by simp only [lensC]; first | (refine ⟨by omega, ?_⟩; refine Nat.le_trans (Nat.mul_le_mul_left _ (show _ ≤ 512 by decide)) ?_; omega) | fail) ?_
    | refine AppN_of rfl rfl (by and_intros <;> rfl) (by simp only [lensC]; first | (refine ⟨by omega, ?_⟩; refine Nat.le_trans (Nat.mul_le_mul_left _ (show _ ≤ 512 by decide)) ?_; omega) | fail) ?_
    | (show False; omega)
  all_goals
    conv => whnf
    first
    | (obtain ⟨e1, e2⟩ := act1 (g := g) (a := a) (by assumption); rw [e1, e2]; exact OutA_deep rfl rfl rfl ⟨⟨rfl, rfl⟩, trivial⟩ rfl)
    | (obtain ⟨e1, e2⟩ := act2 (g := g) (a := a) (by assumption); rw [e1, e2]; exact OutA_deep rfl rfl rfl ⟨⟨rfl, rfl⟩, trivial⟩ rfl)
    | (obtain ⟨e1, e2⟩ := act3 (g := g) (a := a) (by assumption); rw [e1, e2]; exact OutA_deep rfl rfl rfl ⟨⟨rfl, rfl⟩, trivial⟩ rfl)
    | (obtain ⟨e1, e2⟩ := act4 (g := g) (a := a) (by assumption); rw [e1, e2]; exact OutA_deep rfl rfl rfl ⟨⟨rfl, rfl⟩, trivial⟩ rfl)
    | (obtain ⟨e1, e2⟩ := act5 (g := g) (a := a) (by assumption); rw [e1, e2]; exact OutA_deep rfl rfl rfl ⟨⟨rfl, rfl⟩, trivial⟩ rfl)
    | (obtain ⟨e1, e2⟩ := act6 (g := g) (a := a) (by assumption); rw [e1, e2]; exact OutA_deep rfl rfl rfl ⟨⟨rfl, rfl⟩, trivial⟩ rfl)
    | (obtain ⟨e1, e2⟩ := act0 (g := g) (a := a) (by assumption) (by assumption) (by assumption) (by assumption) (by assumption) (by assumption); rw [e1, e2]; refine OutA_nilB 32 1 90 3 0 rfl rfl rfl (by decide) ?_; refine OutA_prom [(1, ReplicaT.shp)] ⟨⟨_, _, _, rfl, prom_nil⟩, trivial⟩ ?_; (conv => whnf); exact OutA_deep rfl rfl rfl ⟨⟨rfl, rfl⟩, trivial⟩ rfl)
end Go.Proofs.YtfpkfnfgloonhaaGreat
