/-
  What OnDisk gives; its law.
  No condition.
-/
import Derived.Test.YtfpkfnfgloonhaaGreatFrame3
namespace Go.Proofs.YtfpkfnfgloonhaaGreat
open Go.Ab
set_option linter.unusedSimpArgs false
set_option maxRecDepth 20000
set_option maxHeartbeats 4000000
set_option linter.unusedVariables false

theorem deep_app {o es L : List (List AV)} {b : Nat} (h1 : o = L) (h2 : es.length = 1) (hl : L.length ≤ 1048576) (hb : b ≤ 4096) : o.length + es.length ≤ 70368744177664 ∧ (o.length + es.length) * b ≤ 140737488355328 := by
  rw [h1, h2]
  exact ⟨by omega, Nat.le_trans (Nat.mul_le_mul (Nat.succ_le_succ hl) hb) (Nat.le_of_ble_eq_true rfl)⟩
theorem app_S {L M : List (List AV)} {b : Nat} (hM : M.length = 1) (hL : L.length ≤ 1048576) (hb : b ≤ 4096) : L.length + M.length ≤ 70368744177664 ∧ (L.length + M.length) * b ≤ 140737488355328 := by
  rw [hM]
  exact ⟨by omega, Nat.le_trans (Nat.mul_le_mul (Nat.succ_le_succ hL) hb) (Nat.le_of_ble_eq_true rfl)⟩
def dskB (d : DiskT) : List UInt8 := d.Kept ++ d.Loose
def entC (s : List UInt8) : List AV := (outE s).cells
theorem entC_map {fs : List (List UInt8)} : fs.map entC = (fs.map outE).map EntryT.cells := by
  rw [List.map_map]
  rfl
theorem dskB_len (d : DiskT) : (dskB d).length = d.w := List.length_append
theorem c_impl_ReadEntry_deep (b : List UInt8) (hb : b.length ≤ 1073741824) : PC Tryz.prog false 148 [.str b] (.tup [.agg [.int .i64 (outE b).Term, .int .i64 (outE b).Rec.Kind, .int .i64 (outE b).Rec.Txn, .int .i64 (outE b).Rec.Time, .int .i64 (outE b).Rec.Lead, .own 0, .own 1, .bool (outE b).Rec.Yes], .bool (okE b)]) [⟨.deep [.leaf], 9, 1, (outE b).Rec.Reads.map strC⟩, ⟨.deep WriteT.shp, 154, 3, (outE b).Rec.Writes.map WriteT.cells⟩] :=
  (c_impl_ReadEntry b hb).prom ⟨_, _, rfl, .inr ⟨[.leaf], rfl, rfl, prom_map (fun _ => rfl)⟩, _, _, rfl, .inr ⟨WriteT.shp, rfl, rfl, prom_map (fun _ => rfl)⟩, rfl⟩
theorem ix_strs {fs : List (List UInt8)} {n : Nat} {Q : List AV → Prop} (h : n < fs.length) (hQ : ∀ x, fs[n]? = some x → Q (strC x)) : ∃ e, (fs.map strC)[n]? = some e ∧ Q e := ⟨strC fs[n], by simp [h], hQ _ (by simp [h])⟩
theorem okAll_next {fs : List (List UInt8)} {k : Nat} {x : List UInt8} (h : ∀ s ∈ fs.take k, okE s = true) (hx : fs[k]? = some x) (hq : okE x = true) : ∀ s ∈ fs.take (k + 1), okE s = true := by
  rw [take_get hx]
  intro s hs
  rcases List.mem_append.1 hs with hs | hs
  · exact h s hs
  · rw [List.mem_singleton.1 hs]; exact hq
theorem all_bad' {fs : List (List UInt8)} {k : Nat} {x : List UInt8} (hx : fs[k]? = some x) (hq : okE x = false) : fs.all okE = false := by
  cases h : fs.all okE with
  | false => rfl
  | true =>
    rw [List.all_eq_true] at h
    rw [h x (List.mem_of_getElem? hx)] at hq
    cases hq
theorem all_good' {fs : List (List UInt8)} {k : Nat} (h : ∀ s ∈ fs.take k, okE s = true) (hk : fs.length ≤ k) : fs.all okE = true := by
  rw [List.take_of_length_le hk] at h
  exact List.all_eq_true.2 h
theorem c_impl_onDisk_yes (d : DiskT) (hw : d.w ≤ 100000) (hall : (frames (dskB d) 0).1.all okE = true) : PC Tryz.prog false 100 [.agg d.cells] (.tup [.own 0, .int .i64 ((frames (dskB d) 0).2 : Nat), .bool true]) [⟨.deep EntryT.shp, 124, 8, ((frames (dskB d) 0).1.map outE).map EntryT.cells⟩] := by
  have h0 : d.w = d.Kept.length + d.Loose.length := rfl
  have hl := dskB_len d
  obtain ⟨f1, f2, f3⟩ := frames_ok (b := dskB d)
  refine pc_at Tryz.func100 rfl (by kernel_rfl) 42 [.tmp 2, .tmp 3, .tmp 4] rfl rfl ?_
  repeat' (conv => whnf); first
    | (refine ix_strs (fs := (frames (dskB d) 0).1) (by omega) (fun x hx => ?_))
    | refine nameB_self (b := (outE x).Rec.Yes) ?_
    | (refine nameB_cases (b := okE x) (fun h => ?_) (fun h => ?_))
    | refine nameB_true ?_
    | refine nameB_false ?_
    | refine nameB_yes (by assumption) ?_
    | refine nameB_no (by assumption) ?_
    | refine nameB_dyes (by assumption) ?_
    | refine nameB_dno (by assumption) ?_
    | (refine nameB_dec (fun h => ?_) (fun h => ?_) <;> try simp only [lensB, midL_len, mkL_length, Int.toNat_natCast, fact_byte] at h)
    | (refine nameB_cases (fun h => ?_) (fun h => ?_) <;> try simp only [bne_iff_ne, ne_eq, bne_eq_false_iff_eq, beq_iff_eq, beq_eq_false_iff_ne, Bool.not_eq_true', Bool.not_eq_false', Bool.or_eq_true, Bool.or_eq_false_iff, lensB, midL_len, mkL_length, Int.toNat_natCast, fact_byte] at h)
    | refine splitB_true ?_
    | refine splitB_false ?_
    | (refine splitB_intro (fun h => ?_) (fun h => ?_) <;> subst h)
    | refine draw_text (by kernel_rfl) (by kernel_rfl) (by kernel_rfl) ?_
    | refine both_intro ?_ ?_
    | refine eitherB_l ?_
    | exact True.intro
    | (show Go.Ab.Loop _ _ _; (refine Loop_nil 7 1 124 8 rfl rfl (by decide) ?_; refine Loop_prom [(1, EntryT.shp)] ⟨⟨_, _, _, rfl, by first | exact prom_nil | exact prom_rep rfl | exact prom_map (fun _ => rfl) | exact prom_one rfl⟩, trivial⟩ ?_; refine Loop_at [6, 22, 23] [0, 4176] (Nat) (fun k => (∀ s ∈ (frames (dskB d) 0).1.take k, okE s = true) ∧ k ≤ (frames (dskB d) 0).1.length) (fun k => [(24, .int .i64 (k : Nat)), (7, .own 1)]) (fun k => [(1, ⟨.deep EntryT.shp, 124, 8, ((frames (dskB d) 0).1.take k).map entC⟩)]) (fun k => (frames (dskB d) 0).1.length - k) 0 ⟨by first | (simp_all <;> fail) | rfl | fail, by first | rfl | (simp_all <;> fail) | fail, trivial⟩ ⟨by first | rfl | exact congrArg (fun e => some (AObj.mk _ _ _ e)) (app_snoc hx rfl) | fail | fail, trivial⟩ (by (try dsimp only); first | (exact ⟨fun s hs => by simp at hs, Nat.zero_le _⟩) | fail) ?_; (conv => whnf); refine side_and (side_of (by first | exact fun k => rfl | exact fun k => by simp [headOk, closedE, closedO, closedL, AV.closed, hcap.closed, hasId, AObj.box, BK.ofB])) ?_; rintro k hT; try dsimp only at hT))
    | (show Go.Ab.Again _ _ _ _ _ _ _ _ _ _ _; refine Again_of (k + 1) ⟨by first | rfl | exact i64_next (by omega) | (simp_all <;> fail) | fail, by first | rfl | (simp_all <;> fail) | fail, trivial⟩ ⟨by first | rfl | exact congrArg (fun e => some (AObj.mk _ _ _ e)) (app_snoc hx rfl) | fail | fail, trivial⟩ (by first | (and_intros <;> first | rfl | trivial) | fail) (by first | (and_intros <;> first | rfl | trivial) | fail) rfl rfl rfl (by (try dsimp only); first | (exact ⟨okAll_next hT.1 hx (by assumption), by omega⟩) | fail) (show _ < _ by (try dsimp only); omega))
    | (show Go.Ab.CallA _ _ _ _ _ _ _; first
        | refine CallF (c_impl_framesOf (dskB d) (by omega)) rfl rfl rfl (Nat.le_of_ble_eq_true rfl) ?_
        | refine CallF (c_impl_ReadEntry_deep x (by have := f3 x (List.mem_of_getElem? hx); omega)) rfl rfl rfl (Nat.le_of_ble_eq_true rfl) ?_)
    | refine ix_map_at hx ?_
    | refine ix_map_at hy ?_
    | refine sl_pre (by omega) (fun _ => rfl) ?_
    | refine sl_suf (by omega) (fun _ => rfl) ?_
    | (refine ix_map2 hx (by omega) (by (try simp only [List.length_take]); omega) (fun y hy => ?_); try simp only [Int.toNat_natCast] at hy)
    | (refine ix_map (by omega) (by (try simp only [List.length_take]); omega) (fun x hx => ?_); try simp only [Int.toNat_natCast] at hx)
    | refine side_and (side_of (by first | (and_intros <;> first | exact Nat.le_of_ble_eq_true rfl | rfl | omega | (simp only [lensB, lensC, List.length_replicate, midL_len, mkL_length]; omega) | exact bytes_ok (Nat.le_of_ble_eq_true rfl) (by omega) (by simp only [lensB, lensC, List.length_replicate, midL_len, mkL_length]; omega) | exact bytes_okN (Nat.le_of_ble_eq_true rfl) (by simp only [lensB, lensC, List.length_replicate, midL_len, mkL_length]; omega)) | fail)) ?_
    | refine nilB_intro (fun h => ?_) ?_
    | refine side_and (side_of (show Go.Ab.structOk _ _ = true by kernel_rfl)) ?_
    | refine side_and (side_of (map_len (fun _ => rfl))) ?_
    | refine side_and (side_of (map_one (fun _ => rfl) _)) ?_
    | refine side_and ?_ ?_
    | refine LoadK_of rfl rfl ?_
    | refine LoadD_cel rfl rfl rfl rfl ?_
    | refine LoadD_of rfl ?_
    | refine StoreD_of rfl rfl rfl ?_
    | refine AppD_of rfl (by and_intros <;> first | rfl | decide) (by simp only [lensC]; first | (refine ⟨by omega, ?_⟩; refine Nat.le_trans (Nat.mul_le_mul_left _ (show _ ≤ 512 by decide)) ?_; omega) | fail) ?_
    | refine AppN_of rfl rfl (by and_intros <;> rfl) (by simp only [lensC]; first | (refine ⟨by omega, ?_⟩; refine Nat.le_trans (Nat.mul_le_mul_left _ (show _ ≤ 512 by decide)) ?_; omega) | fail) ?_
    | refine BuildD_of EntryT.shp rfl rfl rfl ?_
    | refine AppD_of rfl (by and_intros <;> first | rfl | decide) (deep_app (L := ((frames (dskB d) 0).1.take k).map entC) rfl rfl (by rw [List.length_map, List.length_take]; omega) (Nat.le_of_ble_eq_true rfl)) ?_
    | (show False; omega)
  all_goals
    conv => whnf
    first
    | (exfalso; have q := all_bad' hx (by assumption); rw [q] at hall; cases hall)
    | exact OutA_deep rfl rfl rfl ⟨⟨congrArg (fun e => some (AObj.mk _ _ _ e)) ((congrArg (List.map entC) (List.take_of_length_le (by omega))).trans entC_map), rfl⟩, trivial⟩ rfl
theorem c_impl_onDisk_no (d : DiskT) (hw : d.w ≤ 100000) (hall : (frames (dskB d) 0).1.all okE = false) : PC Tryz.prog false 100 [.agg d.cells] (.tup [.nil, .int .i64 0, .bool false]) [] := by
  have h0 : d.w = d.Kept.length + d.Loose.length := rfl
  have hl := dskB_len d
  obtain ⟨f1, f2, f3⟩ := frames_ok (b := dskB d)
  refine pc_at Tryz.func100 rfl (by kernel_rfl) 42 [.tmp 2, .tmp 3, .tmp 4] rfl rfl ?_
  repeat' (conv => whnf); first
    | (refine ix_strs (fs := (frames (dskB d) 0).1) (by omega) (fun x hx => ?_))
    | refine nameB_self (b := (outE x).Rec.Yes) ?_
    | (refine nameB_cases (b := okE x) (fun h => ?_) (fun h => ?_))
    | refine nameB_true ?_
    | refine nameB_false ?_
    | refine nameB_yes (by assumption) ?_
    | refine nameB_no (by assumption) ?_
    | refine nameB_dyes (by assumption) ?_
    | refine nameB_dno (by assumption) ?_
    | (refine nameB_dec (fun h => ?_) (fun h => ?_) <;> try simp only [lensB, midL_len, mkL_length, Int.toNat_natCast, fact_byte] at h)
    | (refine nameB_cases (fun h => ?_) (fun h => ?_) <;> try simp only [bne_iff_ne, ne_eq, bne_eq_false_iff_eq, beq_iff_eq, beq_eq_false_iff_ne, Bool.not_eq_true', Bool.not_eq_false', Bool.or_eq_true, Bool.or_eq_false_iff, lensB, midL_len, mkL_length, Int.toNat_natCast, fact_byte] at h)
    | refine splitB_true ?_
    | refine splitB_false ?_
    | (refine splitB_intro (fun h => ?_) (fun h => ?_) <;> subst h)
    | refine draw_text (by kernel_rfl) (by kernel_rfl) (by kernel_rfl) ?_
    | refine both_intro ?_ ?_
    | refine eitherB_l ?_
    | exact True.intro
    | (show Go.Ab.Loop _ _ _; (refine Loop_nil 7 1 124 8 rfl rfl (by decide) ?_; refine Loop_prom [(1, EntryT.shp)] ⟨⟨_, _, _, rfl, by first | exact prom_nil | exact prom_rep rfl | exact prom_map (fun _ => rfl) | exact prom_one rfl⟩, trivial⟩ ?_; refine Loop_at [6, 22, 23] [0, 4176] (Nat) (fun k => (∀ s ∈ (frames (dskB d) 0).1.take k, okE s = true) ∧ k ≤ (frames (dskB d) 0).1.length) (fun k => [(24, .int .i64 (k : Nat)), (7, .own 1)]) (fun k => [(1, ⟨.deep EntryT.shp, 124, 8, ((frames (dskB d) 0).1.take k).map entC⟩)]) (fun k => (frames (dskB d) 0).1.length - k) 0 ⟨by first | (simp_all <;> fail) | rfl | fail, by first | rfl | (simp_all <;> fail) | fail, trivial⟩ ⟨by first | rfl | exact congrArg (fun e => some (AObj.mk _ _ _ e)) (app_snoc hx rfl) | fail | fail, trivial⟩ (by (try dsimp only); first | (exact ⟨fun s hs => by simp at hs, Nat.zero_le _⟩) | fail) ?_; (conv => whnf); refine side_and (side_of (by first | exact fun k => rfl | exact fun k => by simp [headOk, closedE, closedO, closedL, AV.closed, hcap.closed, hasId, AObj.box, BK.ofB])) ?_; rintro k hT; try dsimp only at hT))
    | (show Go.Ab.Again _ _ _ _ _ _ _ _ _ _ _; refine Again_of (k + 1) ⟨by first | rfl | exact i64_next (by omega) | (simp_all <;> fail) | fail, by first | rfl | (simp_all <;> fail) | fail, trivial⟩ ⟨by first | rfl | exact congrArg (fun e => some (AObj.mk _ _ _ e)) (app_snoc hx rfl) | fail | fail, trivial⟩ (by first | (and_intros <;> first | rfl | trivial) | fail) (by first | (and_intros <;> first | rfl | trivial) | fail) rfl rfl rfl (by (try dsimp only); first | (exact ⟨okAll_next hT.1 hx (by assumption), by omega⟩) | fail) (show _ < _ by (try dsimp only); omega))
    | (show Go.Ab.CallA _ _ _ _ _ _ _; first
        | refine CallF (c_impl_framesOf (dskB d) (by omega)) rfl rfl rfl (Nat.le_of_ble_eq_true rfl) ?_
        | refine CallF (c_impl_ReadEntry_deep x (by have := f3 x (List.mem_of_getElem? hx); omega)) rfl rfl rfl (Nat.le_of_ble_eq_true rfl) ?_)
    | refine ix_map_at hx ?_
    | refine ix_map_at hy ?_
    | refine sl_pre (by omega) (fun _ => rfl) ?_
    | refine sl_suf (by omega) (fun _ => rfl) ?_
    | (refine ix_map2 hx (by omega) (by (try simp only [List.length_take]); omega) (fun y hy => ?_); try simp only [Int.toNat_natCast] at hy)
    | (refine ix_map (by omega) (by (try simp only [List.length_take]); omega) (fun x hx => ?_); try simp only [Int.toNat_natCast] at hx)
    | refine side_and (side_of (by first | (and_intros <;> first | exact Nat.le_of_ble_eq_true rfl | rfl | omega | (simp only [lensB, lensC, List.length_replicate, midL_len, mkL_length]; omega) | exact bytes_ok (Nat.le_of_ble_eq_true rfl) (by omega) (by simp only [lensB, lensC, List.length_replicate, midL_len, mkL_length]; omega) | exact bytes_okN (Nat.le_of_ble_eq_true rfl) (by simp only [lensB, lensC, List.length_replicate, midL_len, mkL_length]; omega)) | fail)) ?_
    | refine nilB_intro (fun h => ?_) ?_
    | refine side_and (side_of (show Go.Ab.structOk _ _ = true by kernel_rfl)) ?_
    | refine side_and (side_of (map_len (fun _ => rfl))) ?_
    | refine side_and (side_of (map_one (fun _ => rfl) _)) ?_
    | refine side_and ?_ ?_
    | refine LoadK_of rfl rfl ?_
    | refine LoadD_cel rfl rfl rfl rfl ?_
    | refine LoadD_of rfl ?_
    | refine StoreD_of rfl rfl rfl ?_
    | refine AppD_of rfl (by and_intros <;> first | rfl | decide) (by simp only [lensC]; first | (refine ⟨by omega, ?_⟩; refine Nat.le_trans (Nat.mul_le_mul_left _ (show _ ≤ 512 by decide)) ?_; omega) | fail) ?_
    | refine AppN_of rfl rfl (by and_intros <;> rfl) (by simp only [lensC]; first | (refine ⟨by omega, ?_⟩; refine Nat.le_trans (Nat.mul_le_mul_left _ (show _ ≤ 512 by decide)) ?_; omega) | fail) ?_
    | refine BuildD_of EntryT.shp rfl rfl rfl ?_
    | refine AppD_of rfl (by and_intros <;> first | rfl | decide) (deep_app (L := ((frames (dskB d) 0).1.take k).map entC) rfl rfl (by rw [List.length_map, List.length_take]; omega) (Nat.le_of_ble_eq_true rfl)) ?_
    | (show False; omega)
  all_goals
    conv => whnf
    first
    | (exfalso; have q := all_good' hT.1 (by omega); rw [q] at hall; cases hall)
    | exact OutA_plain rfl rfl rfl
def dskL (d : DiskT) : List (List UInt8) := match okDsk d with | true => (frames (dskB d) 0).1 | false => []
def dskN (d : DiskT) : Nat := match okDsk d with | true => (frames (dskB d) 0).2 | false => 0
def okOnD (d : DiskT) : Bool := okDsk d && (frames (dskB d) 0).1.all okE
def onD (d : DiskT) : List EntryT := match okOnD d with | true => (frames (dskB d) 0).1.map outE | false => []
theorem onD_yes {d : DiskT} (h : okOnD d = true) : onD d = (frames (dskB d) 0).1.map outE := by unfold onD; rw [h]
theorem onD_no {d : DiskT} (h : okOnD d = false) : onD d = [] := by unfold onD; rw [h]
theorem okDsk_w {d : DiskT} (h : okDsk d = true) : d.w ≤ 50000 := by
  unfold okDsk at h
  have := of_decide_eq_true h
  show d.Kept.length + d.Loose.length ≤ 50000
  omega
theorem dskL_yes {d : DiskT} (h : okDsk d = true) : dskL d = (frames (dskB d) 0).1 ∧ dskN d = (frames (dskB d) 0).2 := by unfold dskL dskN; rw [h]; exact ⟨rfl, rfl⟩
theorem dskL_no {d : DiskT} (h : okDsk d = false) : dskL d = [] ∧ dskN d = 0 := by unfold dskL dskN; rw [h]; exact ⟨rfl, rfl⟩
theorem c_spec_FramesOn (d : DiskT) (hw : d.w ≤ 1048576) : PC Tryz.prog false 95 [.agg d.cells] (.tup [.own 0, .int .i64 (dskN d : Nat), .bool (okDsk d)]) [⟨false, 9, 1, (dskL d).map strC⟩] := by
  have h0 : d.w = d.Kept.length + d.Loose.length := rfl
  have hl := dskB_len d
  cases h1 : okDsk d with
  | false =>
    rw [(dskL_no h1).1, (dskL_no h1).2]
    refine pc_at Tryz.func95 rfl (by kernel_rfl) 22 [.tmp 2, .tmp 3, .tmp 4] rfl rfl ?_
    repeat' (conv => whnf); first
      | refine nameB_no (b := okDsk d) h1 ?_
      | refine nameB_true ?_
      | refine nameB_false ?_
      | refine nameB_yes (by assumption) ?_
      | refine nameB_no (by assumption) ?_
      | refine nameB_dyes (by assumption) ?_
      | refine nameB_dno (by assumption) ?_
      | (refine nameB_dec (fun h => ?_) (fun h => ?_) <;> try simp only [lensB, midL_len, mkL_length, Int.toNat_natCast, fact_byte] at h)
      | (refine nameB_cases (fun h => ?_) (fun h => ?_) <;> try simp only [bne_iff_ne, ne_eq, bne_eq_false_iff_eq, beq_iff_eq, beq_eq_false_iff_ne, Bool.not_eq_true', Bool.not_eq_false', Bool.or_eq_true, Bool.or_eq_false_iff, lensB, midL_len, mkL_length, Int.toNat_natCast, fact_byte] at h)
      | refine splitB_true ?_
      | refine splitB_false ?_
      | (refine splitB_intro (fun h => ?_) (fun h => ?_) <;> subst h)
      | refine draw_text (by kernel_rfl) (by kernel_rfl) (by kernel_rfl) ?_
      | refine both_intro ?_ ?_
      | refine eitherB_l ?_
      | exact True.intro
      | (show Go.Ab.CallA _ _ _ _ _ _ _; refine Call0 (c_spec_GoodDisk d hw) rfl rfl ?_)
      | refine ix_map_at hx ?_
      | refine ix_map_at hy ?_
      | refine sl_pre (by omega) (fun _ => rfl) ?_
      | refine sl_suf (by omega) (fun _ => rfl) ?_
      | (refine ix_map2 hx (by omega) (by (try simp only [List.length_take]); omega) (fun y hy => ?_); try simp only [Int.toNat_natCast] at hy)
      | (refine ix_map (by omega) (by (try simp only [List.length_take]); omega) (fun x hx => ?_); try simp only [Int.toNat_natCast] at hx)
      | refine side_and (side_of (by first | (and_intros <;> first | exact Nat.le_of_ble_eq_true rfl | rfl | omega | (simp only [lensB, lensC, List.length_replicate, midL_len, mkL_length]; omega) | exact bytes_ok (Nat.le_of_ble_eq_true rfl) (by omega) (by simp only [lensB, lensC, List.length_replicate, midL_len, mkL_length]; omega) | exact bytes_okN (Nat.le_of_ble_eq_true rfl) (by simp only [lensB, lensC, List.length_replicate, midL_len, mkL_length]; omega)) | fail)) ?_
      | refine nilB_intro (fun h => ?_) ?_
      | refine side_and (side_of (show Go.Ab.structOk _ _ = true by kernel_rfl)) ?_
      | refine side_and (side_of (map_len (fun _ => rfl))) ?_
      | refine side_and (side_of (map_one (fun _ => rfl) _)) ?_
      | refine side_and ?_ ?_
      | refine LoadK_of rfl rfl ?_
      | refine LoadD_cel rfl rfl rfl rfl ?_
      | refine LoadD_of rfl ?_
      | refine StoreD_of rfl rfl rfl ?_
      | refine AppD_of rfl (by and_intros <;> first | rfl | decide) (by simp only [lensC]; first | (refine ⟨by omega, ?_⟩; refine Nat.le_trans (Nat.mul_le_mul_left _ (show _ ≤ 512 by decide)) ?_; omega) | fail) ?_
      | refine AppN_of rfl rfl (by and_intros <;> rfl) (by simp only [lensC]; first | (refine ⟨by omega, ?_⟩; refine Nat.le_trans (Nat.mul_le_mul_left _ (show _ ≤ 512 by decide)) ?_; omega) | fail) ?_
      | (show False; omega)
    all_goals
      conv => whnf
      exact OutA_nil 2 1 9 1 rfl rfl (by decide) (OutA_ids rfl rfl rfl ⟨⟨_, _, _, rfl, rfl⟩, trivial⟩ rfl (.inr (flat_one rfl)))
  | true =>
    have hw2 := okDsk_w h1
    rw [(dskL_yes h1).1, (dskL_yes h1).2]
    refine pc_at Tryz.func95 rfl (by kernel_rfl) 22 [.tmp 2, .tmp 3, .tmp 4] rfl rfl ?_
    repeat' (conv => whnf); first
      | refine nameB_yes (b := okDsk d) h1 ?_
      | refine nameB_true ?_
      | refine nameB_false ?_
      | refine nameB_yes (by assumption) ?_
      | refine nameB_no (by assumption) ?_
      | refine nameB_dyes (by assumption) ?_
      | refine nameB_dno (by assumption) ?_
      | (refine nameB_dec (fun h => ?_) (fun h => ?_) <;> try simp only [lensB, midL_len, mkL_length, Int.toNat_natCast, fact_byte] at h)
      | (refine nameB_cases (fun h => ?_) (fun h => ?_) <;> try simp only [bne_iff_ne, ne_eq, bne_eq_false_iff_eq, beq_iff_eq, beq_eq_false_iff_ne, Bool.not_eq_true', Bool.not_eq_false', Bool.or_eq_true, Bool.or_eq_false_iff, lensB, midL_len, mkL_length, Int.toNat_natCast, fact_byte] at h)
      | refine splitB_true ?_
      | refine splitB_false ?_
      | (refine splitB_intro (fun h => ?_) (fun h => ?_) <;> subst h)
      | refine draw_text (by kernel_rfl) (by kernel_rfl) (by kernel_rfl) ?_
      | refine both_intro ?_ ?_
      | refine eitherB_l ?_
      | exact True.intro
      | (show Go.Ab.CallA _ _ _ _ _ _ _; first
          | refine Call0 (c_spec_GoodDisk d hw) rfl rfl ?_
          | refine CallF (c_spec_l6Frames (dskB d) (by omega)) rfl rfl rfl (Nat.le_of_ble_eq_true rfl) ?_)
      | refine ix_map_at hx ?_
      | refine ix_map_at hy ?_
      | refine sl_pre (by omega) (fun _ => rfl) ?_
      | refine sl_suf (by omega) (fun _ => rfl) ?_
      | (refine ix_map2 hx (by omega) (by (try simp only [List.length_take]); omega) (fun y hy => ?_); try simp only [Int.toNat_natCast] at hy)
      | (refine ix_map (by omega) (by (try simp only [List.length_take]); omega) (fun x hx => ?_); try simp only [Int.toNat_natCast] at hx)
      | refine side_and (side_of (by first | (and_intros <;> first | exact Nat.le_of_ble_eq_true rfl | rfl | omega | (simp only [lensB, lensC, List.length_replicate, midL_len, mkL_length]; omega) | exact bytes_ok (Nat.le_of_ble_eq_true rfl) (by omega) (by simp only [lensB, lensC, List.length_replicate, midL_len, mkL_length]; omega) | exact bytes_okN (Nat.le_of_ble_eq_true rfl) (by simp only [lensB, lensC, List.length_replicate, midL_len, mkL_length]; omega)) | fail)) ?_
      | refine nilB_intro (fun h => ?_) ?_
      | refine side_and (side_of (show Go.Ab.structOk _ _ = true by kernel_rfl)) ?_
      | refine side_and (side_of (map_len (fun _ => rfl))) ?_
      | refine side_and (side_of (map_one (fun _ => rfl) _)) ?_
      | refine side_and ?_ ?_
      | refine LoadK_of rfl rfl ?_
      | refine LoadD_cel rfl rfl rfl rfl ?_
      | refine LoadD_of rfl ?_
      | refine StoreD_of rfl rfl rfl ?_
      | refine AppD_of rfl (by and_intros <;> first | rfl | decide) (by simp only [lensC]; first | (refine ⟨by omega, ?_⟩; refine Nat.le_trans (Nat.mul_le_mul_left _ (show _ ≤ 512 by decide)) ?_; omega) | fail) ?_
      | refine AppN_of rfl rfl (by and_intros <;> rfl) (by simp only [lensC]; first | (refine ⟨by omega, ?_⟩; refine Nat.le_trans (Nat.mul_le_mul_left _ (show _ ≤ 512 by decide)) ?_; omega) | fail) ?_
      | (show False; omega)
    all_goals
      conv => whnf
      exact OutA_ids rfl rfl rfl ⟨⟨_, _, _, rfl, rfl⟩, trivial⟩ rfl (.inr (flat_one (flat_map (fun _ => rfl) _)))
theorem dskL_ok (d : DiskT) : (dskL d).length ≤ 50000 ∧ ∀ s ∈ dskL d, s.length ≤ 700 := by
  cases h1 : okDsk d with
  | false => rw [(dskL_no h1).1]; exact ⟨Nat.zero_le _, fun s hs => by cases hs⟩
  | true =>
    have hw2 := okDsk_w h1
    have hl := dskB_len d
    obtain ⟨f1, f2, f3⟩ := frames_ok (b := dskB d)
    rw [(dskL_yes h1).1]
    exact ⟨by omega, f3⟩
theorem okOnD_bad {d : DiskT} {k : Nat} {x : List UInt8} (hx : (dskL d)[k]? = some x) (hq : okE x = false) : okOnD d = false := by
  unfold okOnD
  cases h1 : okDsk d with
  | false => rfl
  | true =>
    rw [(dskL_yes h1).1] at hx
    rw [all_bad' hx hq]
    rfl
theorem onD_end {d : DiskT} {k : Nat} (h : ∀ s ∈ (dskL d).take k, okE s = true) (hk : (dskL d).length ≤ k) : AV.tup [.sl (((dskL d).take k).map entC), .bool (okDsk d)] = .tup [.sl ((onD d).map EntryT.cells), .bool (okOnD d)] := by
  have h2 := all_good' h hk
  rw [List.take_of_length_le hk, entC_map]
  cases h1 : okDsk d with
  | false =>
    have e : okOnD d = false := by unfold okOnD; rw [h1]; rfl
    rw [onD_no e, e, (dskL_no h1).1]
    rfl
  | true =>
    rw [(dskL_yes h1).1] at h2 ⊢
    have e : okOnD d = true := by unfold okOnD; rw [h1, h2]; rfl
    rw [onD_yes e, e]
theorem c_spec_OnDisk (d : DiskT) (hw : d.w ≤ 1048576) : PC Tryz.prog true 49 [.agg d.cells] (.tup [.sl ((onD d).map EntryT.cells), .bool (okOnD d)]) [] := by
  obtain ⟨f2, f3⟩ := dskL_ok d
  refine pc_at Tryz.func49 rfl (by kernel_rfl) 41 [.tmp 2, .tmp 3] rfl rfl ?_
  repeat' (conv => whnf); first
    | (refine ix_strs (fs := dskL d) (by omega) (fun x hx => ?_))
    | refine nameB_self (b := (outE x).Rec.Yes) ?_
    | refine nameB_self (b := okDsk d) ?_
    | (refine nameB_cases (b := okE x) (fun h => ?_) (fun h => ?_))
    | refine side_and (side_of (app_S (L := ((dskL d).take k).map entC) rfl (by rw [List.length_map, List.length_take]; omega) (Nat.le_of_ble_eq_true rfl))) ?_
    | refine side_and (side_of (one_lenC rfl rfl)) ?_
    | refine side_and (side_of (by first | (and_intros <;> first | exact Nat.le_of_ble_eq_true rfl | rfl | (intro e; exact absurd (AV.own.inj e) (by decide)) | (intro e; exact AV.noConfusion e)) | fail)) ?_
    | refine side_and (side_of (app_boundC (L := ((dskL d).take k).map entC) rfl (by (try simp only [List.length_map, List.length_append, List.length_take, List.length_set, List.length_drop]); omega) (Nat.le_of_ble_eq_true rfl))) ?_
    | refine nameB_true ?_
    | refine nameB_false ?_
    | refine nameB_yes (by assumption) ?_
    | refine nameB_no (by assumption) ?_
    | refine nameB_dyes (by assumption) ?_
    | refine nameB_dno (by assumption) ?_
    | (refine nameB_dec (fun h => ?_) (fun h => ?_) <;> try simp only [lensB, midL_len, mkL_length, Int.toNat_natCast, fact_byte] at h)
    | (refine nameB_cases (fun h => ?_) (fun h => ?_) <;> try simp only [bne_iff_ne, ne_eq, bne_eq_false_iff_eq, beq_iff_eq, beq_eq_false_iff_ne, Bool.not_eq_true', Bool.not_eq_false', Bool.or_eq_true, Bool.or_eq_false_iff, lensB, midL_len, mkL_length, Int.toNat_natCast, fact_byte] at h)
    | refine splitB_true ?_
    | refine splitB_false ?_
    | (refine splitB_intro (fun h => ?_) (fun h => ?_) <;> subst h)
    | refine draw_text (by kernel_rfl) (by kernel_rfl) (by kernel_rfl) ?_
    | refine both_intro ?_ ?_
    | refine eitherB_l ?_
    | exact True.intro
    | (show Go.Ab.Loop _ _ _; (refine Loop_nil 4 1 124 8 rfl rfl (by decide) ?_; refine Loop_at [5, 7] [0, 8208] (Nat) (fun k => (∀ s ∈ (dskL d).take k, okE s = true) ∧ k ≤ (dskL d).length) (fun k => [(8, .int .i64 (k : Nat)), (4, .own 1)]) (fun k => [(1, ⟨false, 124, 8, ((dskL d).take k).map entC⟩)]) (fun k => (dskL d).length - k) 0 ⟨by first | (simp_all <;> fail) | rfl | fail, by first | rfl | (simp_all <;> fail) | fail, trivial⟩ ⟨by first | rfl | exact congrArg (fun e => some (AObj.mk _ _ _ e)) (app_snoc hx rfl) | fail | fail, trivial⟩ (by (try dsimp only); first | (exact ⟨fun s hs => by simp at hs, Nat.zero_le _⟩) | fail) ?_; (conv => whnf); refine side_and (side_of (by first | exact fun k => rfl | exact fun k => by simp [headOk, closedE, closedO, closedL, AV.closed, hcap.closed, hasId, AObj.box, BK.ofB])) ?_; rintro k hT; try dsimp only at hT))
    | (show Go.Ab.Again _ _ _ _ _ _ _ _ _ _ _; refine Again_of (k + 1) ⟨by first | rfl | exact i64_next (by omega) | (simp_all <;> fail) | fail, by first | rfl | (simp_all <;> fail) | fail, trivial⟩ ⟨by first | rfl | exact congrArg (fun e => some (AObj.mk _ _ _ e)) (app_snoc hx rfl) | fail | fail, trivial⟩ (by first | (and_intros <;> first | rfl | trivial) | fail) (by first | (and_intros <;> first | rfl | trivial) | fail) rfl rfl rfl (by (try dsimp only); first | (exact ⟨okAll_next hT.1 hx (by assumption), by omega⟩) | fail) (show _ < _ by (try dsimp only); omega))
    | (show Go.Ab.CallA _ _ _ _ _ _ _; first
        | refine CallF (c_spec_FramesOn d hw) rfl rfl rfl (Nat.le_of_ble_eq_true rfl) ?_
        | refine CallF (c_spec_ReadEntry x (by have := f3 x (List.mem_of_getElem? hx); omega)) rfl rfl rfl (Nat.le_of_ble_eq_true rfl) ?_)
    | refine ix_map_at hx ?_
    | refine ix_map_at hy ?_
    | refine sl_pre (by omega) (fun _ => rfl) ?_
    | refine sl_suf (by omega) (fun _ => rfl) ?_
    | (refine ix_map2 hx (by omega) (by (try simp only [List.length_take]); omega) (fun y hy => ?_); try simp only [Int.toNat_natCast] at hy)
    | (refine ix_map (by omega) (by (try simp only [List.length_take]); omega) (fun x hx => ?_); try simp only [Int.toNat_natCast] at hx)
    | refine side_and (side_of (by first | (and_intros <;> first | exact Nat.le_of_ble_eq_true rfl | rfl | omega | (simp only [lensB, lensC, List.length_replicate, midL_len, mkL_length]; omega) | exact bytes_ok (Nat.le_of_ble_eq_true rfl) (by omega) (by simp only [lensB, lensC, List.length_replicate, midL_len, mkL_length]; omega) | exact bytes_okN (Nat.le_of_ble_eq_true rfl) (by simp only [lensB, lensC, List.length_replicate, midL_len, mkL_length]; omega)) | fail)) ?_
    | refine nilB_intro (fun h => ?_) ?_
    | refine side_and (side_of (show Go.Ab.structOk _ _ = true by kernel_rfl)) ?_
    | refine side_and (side_of (map_len (fun _ => rfl))) ?_
    | refine side_and (side_of (map_one (fun _ => rfl) _)) ?_
    | refine side_and ?_ ?_
    | refine LoadK_of rfl rfl ?_
    | refine LoadD_cel rfl rfl rfl rfl ?_
    | refine LoadD_of rfl ?_
    | refine StoreD_of rfl rfl rfl ?_
    | refine AppD_of rfl (by and_intros <;> first | rfl | decide) (by simp only [lensC]; first | (refine ⟨by omega, ?_⟩; refine Nat.le_trans (Nat.mul_le_mul_left _ (show _ ≤ 512 by decide)) ?_; omega) | fail) ?_
    | refine AppN_of rfl rfl (by and_intros <;> rfl) (by simp only [lensC]; first | (refine ⟨by omega, ?_⟩; refine Nat.le_trans (Nat.mul_le_mul_left _ (show _ ≤ 512 by decide)) ?_; omega) | fail) ?_
    | (show False; omega)
  all_goals
    conv => whnf
    first
    | (have e := okOnD_bad hx (by assumption); rw [onD_no e, e]; exact OutA_nilS 2 rfl (by (conv => whnf); exact OutA_plain rfl rfl rfl))
    | (refine OutA_frz [1] ?_
       conv => whnf
       exact OutA_plain rfl rfl (onD_end hT.1 (by omega)))
theorem onD_ok (d : DiskT) : okL EntryT.ok (onD d) ∧ cntL EntryT.cnt (onD d) ≤ 1000000000000000 := by
  cases h : okOnD d with
  | false => rw [onD_no h]; exact ⟨⟨Nat.zero_le _, fun _ h => by cases h⟩, Nat.zero_le _⟩
  | true =>
    have h1 : okDsk d = true := by unfold okOnD at h; rw [Bool.and_eq_true] at h; exact h.1
    have hw2 := okDsk_w h1
    have hl := dskB_len d
    obtain ⟨f1, f2, f3⟩ := frames_ok (b := dskB d)
    rw [onD_yes h]
    generalize (frames (dskB d) 0).1 = fs at f2
    refine ⟨⟨by rw [List.length_map]; omega, fun x hx => ?_⟩, ?_⟩
    · obtain ⟨y, _, rfl⟩ := List.mem_map.1 hx
      exact small_ok outE_small
    · have key : ∀ fs : List (List UInt8), cntL EntryT.cnt (fs.map outE) ≤ fs.length * 200000000 := by
        intro fs
        induction fs with
        | nil => exact Nat.zero_le _
        | cons x xs ih =>
          have h3 := EntryT.cnt_w (outE x)
          have h4 : EntryT.w (outE x) ≤ 1048576 := outE_small.w
          simp only [cntL, List.map_cons, List.sum_cons, List.length_cons] at ih ⊢
          omega
      have := key fs
      have : fs.length * 200000000 ≤ 50000 * 200000000 := Nat.mul_le_mul_right _ (by omega)
      omega
end Go.Proofs.YtfpkfnfgloonhaaGreat
