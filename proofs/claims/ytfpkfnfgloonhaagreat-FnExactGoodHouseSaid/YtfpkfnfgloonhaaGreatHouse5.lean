/-
  Good houses: what GoodHouse gives.
  No condition.
-/
import Derived.Test.YtfpkfnfgloonhaaGreatHouse4
namespace Go.Proofs.YtfpkfnfgloonhaaGreat
open Go.Ab
set_option linter.unusedSimpArgs false
set_option maxRecDepth 20000
set_option maxHeartbeats 4000000
set_option linter.unusedVariables false

theorem wL_memS {α : Type} {w : α → Nat} {xs : List α} {x : α} (h : x ∈ xs) : w x + 1 ≤ wL w xs := by
  induction xs with
  | nil => simp at h
  | cons y ys ih =>
    simp only [wL, List.map_cons, List.sum_cons, List.length_cons] at ih ⊢
    rcases List.mem_cons.1 h with rfl | h
    · omega
    · have := ih h
      omega
theorem log_lenS {g : GroupT} {x : ReplicaT} {k : Nat} (hw : g.w ≤ 1048576) (h : g.Reps[k]? = some x) : x.Log.length ≤ 1048575 := by
  have h1 := wL_memS (w := ReplicaT.w) (List.mem_of_getElem? h)
  have h2 : wL EntryT.w x.Log + 1 ≤ g.w := h1
  have := wL_len (w := EntryT.w) (xs := x.Log)
  omega
def pairF (term : Int) (p : ReplicaT × DiskT) : Bool := fitsD term p.1 p.2
def okHouse (h : HouseT) : Bool := (okGroup h.Group && decide ((h.Disks.length : Int) = (h.Group.Reps.length : Int))) && (h.Group.Reps.zip h.Disks).all (pairF h.Group.Term)
theorem zip_at {xs : List ReplicaT} {ys : List DiskT} {k : Nat} {x : ReplicaT} {y : DiskT} (hx : xs[k]? = some x) (hy : ys[k]? = some y) : (xs.zip ys)[k]? = some (x, y) := by
  rw [List.getElem?_zip_eq_some]
  exact ⟨hx, hy⟩
theorem house_len {h : HouseT} (hw : h.w ≤ 1048576) : h.Group.w ≤ 1048576 ∧ ∀ d ∈ h.Disks, d.w ≤ 1048576 := by
  have e : h.w = h.Group.w + wL DiskT.w h.Disks := rfl
  refine ⟨by omega, fun d hd => ?_⟩
  have := (wL_mem (w := DiskT.w) hd).2
  omega
theorem fits_gone {term : Int} {r : ReplicaT} {d : DiskT} (h : okDsk d = false) : fitsD term r d = false := by
  unfold fitsD mendB
  rw [h]
  rfl
theorem okH_no {H : HouseT} (h : okGroup H.Group = false ∨ ¬ (H.Disks.length : Int) = (H.Group.Reps.length : Int) ∨ (H.Group.Reps.zip H.Disks).all (pairF H.Group.Term) = false) : okHouse H = false := by
  unfold okHouse
  rcases h with h | h | h
  · rw [h]; rfl
  · rw [decide_eq_false h]; simp
  · rw [h]; simp
theorem okH_yes {H : HouseT} (h1 : okGroup H.Group = true) (h2 : (H.Disks.length : Int) = (H.Group.Reps.length : Int)) (h3 : (H.Group.Reps.zip H.Disks).all (pairF H.Group.Term) = true) : okHouse H = true := by
  unfold okHouse
  rw [h1, decide_eq_true h2, h3]
  rfl
theorem ix_reps {L : List ReplicaT} {n m : Nat} {Q : List AV → Prop} (e : n = m) (h : m < L.length) (hQ : ∀ x, L[m]? = some x → Q x.cells) : ∃ y, (L.map ReplicaT.cells)[n]? = some y ∧ Q y := by
  subst e
  exact ⟨ReplicaT.cells L[n], by simp [h], hQ _ (by simp [h])⟩
theorem ix_dsks {L : List DiskT} {n m : Nat} {Q : List AV → Prop} (e : n = m) (h : m < L.length) (hQ : ∀ x, L[m]? = some x → Q x.cells) : ∃ y, (L.map DiskT.cells)[n]? = some y ∧ Q y := by
  subst e
  exact ⟨DiskT.cells L[n], by simp [h], hQ _ (by simp [h])⟩
theorem bad_dsk {H : HouseT} {k : Nat} {y : DiskT} (hl : (H.Disks.length : Int) = (H.Group.Reps.length : Int)) (hT : ((H.Group.Reps.zip H.Disks).drop k).all (pairF H.Group.Term) = (H.Group.Reps.zip H.Disks).all (pairF H.Group.Term)) (hy : H.Disks[k]? = some y) (h : okDsk y = false) : (H.Group.Reps.zip H.Disks).all (pairF H.Group.Term) = false := by
  have hk : k < H.Disks.length := (List.getElem?_eq_some_iff.1 hy).1
  have hx : H.Group.Reps[k]? = some (H.Group.Reps[k]'(by omega)) := List.getElem?_eq_getElem _
  exact all_bad hT (zip_at hx hy) (fits_gone h)
theorem c_impl_GoodHouse (H : HouseT) (hok : H.ok) (hw : H.w ≤ 1048576) : PC Tryz.prog false 26 [.agg H.cells] (.bool (okHouse H)) [] := by
  obtain ⟨hw1, hw2⟩ := house_len hw
  have hl := reps_len hw1
  refine pc_at Tryz.func26 rfl (by kernel_rfl) 39 [.tmp 2] rfl rfl ?_
  repeat' (conv => whnf); first
    | (refine nameB_cases (b := okGroup H.Group) (fun h => ?_) (fun h => ?_))
    | (refine nameB_cases (b := fitsD H.Group.Term x y) (fun h => ?_) (fun h => ?_))
    | (refine ix_reps (m := k) (by simp) (by omega) (fun x hx => ?_))
    | (refine ix_dsks (m := k) (by simp) (by omega) (fun y hy => ?_))
    | refine nameB_true ?_
    | refine nameB_false ?_
    | refine nameB_yes (by assumption) ?_
    | refine nameB_no (by assumption) ?_
    | refine nameB_dyes (by assumption) ?_
    | refine nameB_dno (by assumption) ?_
    | (refine nameB_dec (fun h => ?_) (fun h => ?_) <;> try simp only [lensB, midL_len, mkL_length, Int.toNat_natCast, fact_byte] at h)
    | (refine nameB_cases (fun h => ?_) (fun h => ?_) <;> try simp only [bne_iff_ne, ne_eq, bne_eq_false_iff_eq, beq_iff_eq, beq_eq_false_iff_ne, Bool.not_eq_true', Bool.not_eq_false', Bool.or_eq_true, Bool.or_eq_false_iff, lensB, midL_len, mkL_length, Int.toNat_natCast, fact_byte] at h)
    | refine splitB_true ?_
    | refine splitB_false ?_
    | (refine splitB_intro (fun h => ?_) (fun h => ?_) <;> subst h)
    | refine draw_text (by kernel_rfl) (by kernel_rfl) (by kernel_rfl) ?_
    | refine both_intro ?_ ?_
    | refine eitherB_l ?_
    | exact True.intro
    | (show Go.Ab.Loop _ _ _; (refine Loop_at [1, 21, 22] [0] (Nat) (fun k => ((H.Group.Reps.zip H.Disks).drop k).all (pairF H.Group.Term) = (H.Group.Reps.zip H.Disks).all (pairF H.Group.Term) ∧ k ≤ H.Group.Reps.length) (fun k => [(23, .int .i64 (k : Nat))]) (fun k => []) (fun k => H.Group.Reps.length - k) 0 ⟨by first | (simp_all <;> fail) | rfl | fail, trivial⟩ trivial (by (try dsimp only); first | (exact ⟨rfl, Nat.zero_le _⟩) | fail) ?_; (conv => whnf); refine side_and (side_of (by first | exact fun k => rfl | exact fun k => by simp [headOk, closedE, closedO, closedL, AV.closed, hcap.closed, hasId, AObj.box, BK.ofB])) ?_; rintro k hT; try dsimp only at hT))
    | (show Go.Ab.Again _ _ _ _ _ _ _ _ _ _ _; refine Again_of (k + 1) ⟨by first | rfl | exact i64_next (by omega) | (simp_all <;> fail) | fail, trivial⟩ trivial (by first | (and_intros <;> first | rfl | trivial) | fail) (by first | (and_intros <;> first | rfl | trivial) | fail) rfl rfl rfl (by (try dsimp only); first | (exact ⟨all_go hT.1 (zip_at hx hy) (by assumption), by omega⟩) | fail) (show _ < _ by (try dsimp only); omega))
    | (show Go.Ab.CallA _ _ _ _ _ _ _; refine Call0 (c_impl_GoodGroup H.Group hok.1 hw1) rfl rfl ?_)
    | (show Go.Ab.CallD _ _ _ _ _ _ _; first
        | refine CallD0 (c_impl_fitsDisk H.Group x y (log_lenS hw1 hx) (hw2 y (List.mem_of_getElem? hy))) rfl rfl rfl ?_
        | refine CallD0 (c_impl_GoodGroup H.Group hok.1 hw1) rfl rfl rfl ?_)
    | refine ix_map_at hx ?_
    | refine ix_map_at hy ?_
    | refine sl_pre (by omega) (fun _ => rfl) ?_
    | refine sl_suf (by omega) (fun _ => rfl) ?_
    | (refine ix_map2 hx (by omega) (by (try simp only [List.length_take]); omega) (fun y hy => ?_); try simp only [Int.toNat_natCast] at hy)
    | (refine ix_map (by omega) (by (try simp only [List.length_take]); omega) (fun x hx => ?_); try simp only [Int.toNat_natCast] at hx)
    | refine side_and (side_of (by first | (and_intros <;> first | exact Nat.le_of_ble_eq_true rfl | rfl | omega | (simp only [lensB, lensC, List.length_replicate, midL_len, mkL_length]; omega) | exact bytes_ok (Nat.le_of_ble_eq_true rfl) (by omega) (by simp only [lensB, lensC, List.length_replicate, midL_len, mkL_length]; omega) | exact bytes_okN (Nat.le_of_ble_eq_true rfl) (by simp only [lensB, lensC, List.length_replicate, midL_len, mkL_length]; omega)) | fail)) ?_
    | refine nilB_intro (fun h => ?_) ?_
    | refine side_and (side_of (show Go.Ab.structOk _ _ = true by kernel_rfl)) ?_
    | refine side_and (side_of (map_len (fun _ => rfl))) ?_
    | refine side_and (side_of (map_one (fun _ => rfl) _)) ?_
    | refine side_and ?_ ?_
    | refine LoadK_of rfl rfl ?_
    | refine LoadD_cel rfl rfl rfl rfl ?_
    | refine LoadD_of rfl ?_
    | refine StoreD_of rfl rfl rfl ?_
    | refine AppD_of rfl (by and_intros <;> first | rfl | decide) (by simp only [lensC]; first | (refine ⟨by omega, ?_⟩; refine Nat.le_trans (Nat.mul_le_mul_left _ (show _ ≤ 512 by decide)) ?_; omega) | fail) ?_
    | refine AppN_of rfl rfl (by and_intros <;> rfl) (by simp only [lensC]; first | (refine ⟨by omega, ?_⟩; refine Nat.le_trans (Nat.mul_le_mul_left _ (show _ ≤ 512 by decide)) ?_; omega) | fail) ?_
    | (show False; omega)
  all_goals
    conv => whnf
    refine OutA_plain rfl rfl ?_
    first
    | (have hb := all_bad hT.1 (zip_at hx hy) (by assumption); rw [okH_no (.inr (.inr hb))]; rfl)
    | (have hb := all_end hT.1 (by rw [List.length_zip]; omega); rw [okH_yes (by assumption) (by assumption) hb]; rfl)
    | (rw [okH_no (by first | exact .inl (by assumption) | exact .inr (.inl (by assumption)))]; rfl)
theorem c_spec_l11Good (H : HouseT) (hok : H.ok) (hw : H.w ≤ 1048576) : PC Tryz.prog true 45 [.agg H.cells] (.bool (okHouse H)) [] := by
  obtain ⟨hw1, hw2⟩ := house_len hw
  have hl := reps_len hw1
  have hdl : H.Disks.length ≤ 1048576 := by
    have e : H.w = H.Group.w + wL DiskT.w H.Disks := rfl
    have := wL_len (w := DiskT.w) (xs := H.Disks)
    omega
  refine pc_at Tryz.func45 rfl (by kernel_rfl) 50 [.tmp 2] rfl rfl ?_
  repeat' (conv => whnf); first
    | (refine nameB_cases (b := okGroup H.Group) (fun h => ?_) (fun h => ?_))
    | (refine nameB_cases (b := fitsD H.Group.Term x y) (fun h => ?_) (fun h => ?_))
    | (refine nameB_cases (b := okDsk y) (fun h => ?_) (fun h => ?_))
    | refine ix_at (f := DiskT.cells) (m := k) rfl hy ?_
    | (refine ix_as (f := DiskT.cells) (m := k) rfl (by omega) (fun y hy => ?_))
    | (refine ix_as (f := ReplicaT.cells) (m := k) rfl (by omega) (fun x hx => ?_))
    | refine nameB_true ?_
    | refine nameB_false ?_
    | refine nameB_yes (by assumption) ?_
    | refine nameB_no (by assumption) ?_
    | refine nameB_dyes (by assumption) ?_
    | refine nameB_dno (by assumption) ?_
    | (refine nameB_dec (fun h => ?_) (fun h => ?_) <;> try simp only [lensB, midL_len, mkL_length, Int.toNat_natCast, fact_byte] at h)
    | (refine nameB_cases (fun h => ?_) (fun h => ?_) <;> try simp only [bne_iff_ne, ne_eq, bne_eq_false_iff_eq, beq_iff_eq, beq_eq_false_iff_ne, Bool.not_eq_true', Bool.not_eq_false', Bool.or_eq_true, Bool.or_eq_false_iff, lensB, midL_len, mkL_length, Int.toNat_natCast, fact_byte] at h)
    | refine splitB_true ?_
    | refine splitB_false ?_
    | (refine splitB_intro (fun h => ?_) (fun h => ?_) <;> subst h)
    | refine draw_text (by kernel_rfl) (by kernel_rfl) (by kernel_rfl) ?_
    | refine both_intro ?_ ?_
    | refine eitherB_l ?_
    | exact True.intro
    | (show Go.Ab.Loop _ _ _; (refine Loop_at [1] [0] (Nat) (fun k => ((H.Group.Reps.zip H.Disks).drop k).all (pairF H.Group.Term) = (H.Group.Reps.zip H.Disks).all (pairF H.Group.Term) ∧ k ≤ H.Disks.length) (fun k => [(3, .int .i64 (k : Nat))]) (fun k => []) (fun k => H.Disks.length - k) 0 ⟨by first | (simp_all <;> fail) | rfl | fail, trivial⟩ trivial (by (try dsimp only); first | (exact ⟨rfl, Nat.zero_le _⟩) | fail) ?_; (conv => whnf); refine side_and (side_of (by first | exact fun k => rfl | exact fun k => by simp [headOk, closedE, closedO, closedL, AV.closed, hcap.closed, hasId, AObj.box, BK.ofB])) ?_; rintro k hT; try dsimp only at hT))
    | (show Go.Ab.Again _ _ _ _ _ _ _ _ _ _ _; refine Again_of (k + 1) ⟨by first | rfl | exact i64_next (by omega) | (simp_all <;> fail) | fail, trivial⟩ trivial (by first | (and_intros <;> first | rfl | trivial) | fail) (by first | (and_intros <;> first | rfl | trivial) | fail) rfl rfl rfl (by (try dsimp only); first | (exact ⟨all_go hT.1 (zip_at hx hy) (by assumption), by omega⟩) | fail) (show _ < _ by (try dsimp only); omega))
    | (show Go.Ab.CallA _ _ _ _ _ _ _; refine Call0 (c_spec_GoodGroup H.Group hok.1 hw1) rfl rfl ?_)
    | (show Go.Ab.CallD _ _ _ _ _ _ _; first
        | refine CallD0 (c_spec_GoodDisk y (hw2 y (List.mem_of_getElem? hy))) rfl rfl rfl ?_
        | refine CallDT (c_spec_l11Fits2 y x H.Group.Term (by assumption) (log_lenS hw1 hx)) rfl rfl rfl ⟨rfl, rfl⟩ ?_
        | refine CallD0 (c_spec_GoodGroup H.Group hok.1 hw1) rfl rfl rfl ?_)
    | refine ix_map_at hx ?_
    | refine ix_map_at hy ?_
    | refine sl_pre (by omega) (fun _ => rfl) ?_
    | refine sl_suf (by omega) (fun _ => rfl) ?_
    | (refine ix_map2 hx (by omega) (by (try simp only [List.length_take]); omega) (fun y hy => ?_); try simp only [Int.toNat_natCast] at hy)
    | (refine ix_map (by omega) (by (try simp only [List.length_take]); omega) (fun x hx => ?_); try simp only [Int.toNat_natCast] at hx)
    | refine side_and (side_of (by first | (and_intros <;> first | exact Nat.le_of_ble_eq_true rfl | rfl | omega | (simp only [lensB, lensC, List.length_replicate, midL_len, mkL_length]; omega) | exact bytes_ok (Nat.le_of_ble_eq_true rfl) (by omega) (by simp only [lensB, lensC, List.length_replicate, midL_len, mkL_length]; omega) | exact bytes_okN (Nat.le_of_ble_eq_true rfl) (by simp only [lensB, lensC, List.length_replicate, midL_len, mkL_length]; omega)) | fail)) ?_
    | refine nilB_intro (fun h => ?_) ?_
    | refine side_and (side_of (show Go.Ab.structOk _ _ = true by kernel_rfl)) ?_
    | refine side_and (side_of (map_len (fun _ => rfl))) ?_
    | refine side_and (side_of (map_one (fun _ => rfl) _)) ?_
    | refine side_and ?_ ?_
    | refine LoadK_of rfl rfl ?_
    | refine LoadD_cel rfl rfl rfl rfl ?_
    | refine LoadD_of rfl ?_
    | refine StoreD_of rfl rfl rfl ?_
    | refine AppD_of rfl (by and_intros <;> first | rfl | decide) (by simp only [lensC]; first | (refine ⟨by omega, ?_⟩; refine Nat.le_trans (Nat.mul_le_mul_left _ (show _ ≤ 512 by decide)) ?_; omega) | fail) ?_
    | refine AppN_of rfl rfl (by and_intros <;> rfl) (by simp only [lensC]; first | (refine ⟨by omega, ?_⟩; refine Nat.le_trans (Nat.mul_le_mul_left _ (show _ ≤ 512 by decide)) ?_; omega) | fail) ?_
    | (show False; omega)
  all_goals
    conv => whnf
    refine OutA_plain rfl rfl ?_
    first
    | (rw [okH_no (by first | exact .inl (by assumption) | exact .inr (.inl (by assumption)))]; rfl)
    | (have hb := all_bad hT.1 (zip_at hx hy) (by assumption); rw [okH_no (.inr (.inr hb))]; rfl)
    | (have hb := bad_dsk (by assumption) hT.1 hy (by assumption); rw [okH_no (.inr (.inr hb))]; rfl)
    | (have hb := all_end hT.1 (by rw [List.length_zip]; omega); rw [okH_yes (by assumption) (by assumption) hb]; rfl)
theorem c_spec_GoodHouse (H : HouseT) (hok : H.ok) (hw : H.w ≤ 1048576) : PC Tryz.prog true 25 [.agg H.cells] (.bool (okHouse H)) [] := by
  refine pc_at Tryz.func25 rfl (by kernel_rfl) 5 [.tmp 2] rfl rfl ?_
  repeat' (conv => whnf); first
    | refine nameB_self (b := okHouse H) ?_
    | refine nameB_true ?_
    | refine nameB_false ?_
    | refine nameB_yes (by assumption) ?_
    | refine nameB_no (by assumption) ?_
    | refine nameB_dyes (by assumption) ?_
    | refine nameB_dno (by assumption) ?_
    | (refine nameB_dec (fun h => ?_) (fun h => ?_) <;> try simp only [lensB, midL_len, mkL_length, Int.toNat_natCast, fact_byte] at h)
    | (refine nameB_cases (fun h => ?_) (fun h => ?_) <;> try simp only [bne_iff_ne, ne_eq, bne_eq_false_iff_eq, beq_iff_eq, beq_eq_false_iff_ne, Bool.not_eq_true', Bool.not_eq_false', Bool.or_eq_true, Bool.or_eq_false_iff, lensB, midL_len, mkL_length, Int.toNat_natCast, fact_byte] at h)
    | refine splitB_true ?_
    | refine splitB_false ?_
    | (refine splitB_intro (fun h => ?_) (fun h => ?_) <;> subst h)
    | refine draw_text (by kernel_rfl) (by kernel_rfl) (by kernel_rfl) ?_
    | refine both_intro ?_ ?_
    | refine eitherB_l ?_
    | exact True.intro
    | (show Go.Ab.CallA _ _ _ _ _ _ _; refine CallT (c_spec_l11Good H hok hw) rfl rfl rfl rfl (Nat.le_of_ble_eq_true rfl) ?_)
    | refine ix_map_at hx ?_
    | refine ix_map_at hy ?_
    | refine sl_pre (by omega) (fun _ => rfl) ?_
    | refine sl_suf (by omega) (fun _ => rfl) ?_
    | (refine ix_map2 hx (by omega) (by (try simp only [List.length_take]); omega) (fun y hy => ?_); try simp only [Int.toNat_natCast] at hy)
    | (refine ix_map (by omega) (by (try simp only [List.length_take]); omega) (fun x hx => ?_); try simp only [Int.toNat_natCast] at hx)
    | refine side_and (side_of (by first | (and_intros <;> first | exact Nat.le_of_ble_eq_true rfl | rfl | omega | (simp only [lensB, lensC, List.length_replicate, midL_len, mkL_length]; omega) | exact bytes_ok (Nat.le_of_ble_eq_true rfl) (by omega) (by simp only [lensB, lensC, List.length_replicate, midL_len, mkL_length]; omega) | exact bytes_okN (Nat.le_of_ble_eq_true rfl) (by simp only [lensB, lensC, List.length_replicate, midL_len, mkL_length]; omega)) | fail)) ?_
    | refine nilB_intro (fun h => ?_) ?_
    | refine side_and (side_of (show Go.Ab.structOk _ _ = true by kernel_rfl)) ?_
    | refine side_and (side_of (map_len (fun _ => rfl))) ?_
    | refine side_and (side_of (map_one (fun _ => rfl) _)) ?_
    | refine side_and ?_ ?_
    | refine LoadK_of rfl rfl ?_
    | refine LoadD_cel rfl rfl rfl rfl ?_
    | refine LoadD_of rfl ?_
    | refine StoreD_of rfl rfl rfl ?_
    | refine AppD_of rfl (by and_intros <;> first | rfl | decide) (by simp only [lensC]; first | (refine ⟨by omega, ?_⟩; refine Nat.le_trans (Nat.mul_le_mul_left _ (show _ ≤ 512 by decide)) ?_; omega) | fail) ?_
    | refine AppN_of rfl rfl (by and_intros <;> rfl) (by simp only [lensC]; first | (refine ⟨by omega, ?_⟩; refine Nat.le_trans (Nat.mul_le_mul_left _ (show _ ≤ 512 by decide)) ?_; omega) | fail) ?_
    | (show False; omega)
  all_goals
    conv => whnf
    exact OutA_plain rfl rfl rfl
theorem law_GoodHouse (a : HouseT) (b : Bool) (hok : a.ok)
    (hS : a.w ≤ 1048576 → PC Tryz.prog true 25 [.agg a.cells] (.bool b) [])
    (hI : a.w ≤ 1048576 → PC Tryz.prog false 26 [.agg a.cells] (.bool b) []) :
    PC Tryz.prog false 5 [.agg a.cells] (.bool true) [] := by
  refine pc_at Tryz.func5 rfl (by kernel_rfl) 27 [.tmp 2] rfl rfl ?_
  repeat' (conv => whnf); first
    | refine nameB_self (b := b) ?_
    | refine nameB_no (b := !(b == b)) (by simp) ?_
    | refine nameB_true ?_
    | refine nameB_false ?_
    | refine nameB_yes (by assumption) ?_
    | refine nameB_no (by assumption) ?_
    | refine nameB_dyes (by assumption) ?_
    | refine nameB_dno (by assumption) ?_
    | (refine nameB_dec (fun h => ?_) (fun h => ?_) <;> try simp only [lensB, midL_len, mkL_length, Int.toNat_natCast, fact_byte] at h)
    | (refine nameB_cases (fun h => ?_) (fun h => ?_) <;> try simp only [bne_iff_ne, ne_eq, bne_eq_false_iff_eq, beq_iff_eq, beq_eq_false_iff_ne, Bool.not_eq_true', Bool.not_eq_false', Bool.or_eq_true, Bool.or_eq_false_iff, lensB, midL_len, mkL_length, Int.toNat_natCast, fact_byte] at h)
    | refine splitB_true ?_
    | refine splitB_false ?_
    | (refine splitB_intro (fun h => ?_) (fun h => ?_) <;> subst h)
    | refine draw_text (by kernel_rfl) (by kernel_rfl) (by kernel_rfl) ?_
    | refine both_intro ?_ ?_
    | refine eitherB_l ?_
    | exact True.intro
    | (show Go.Ab.CallA _ _ _ _ _ _ _; first
        | (by_cases hn : (1048576 : Int) - ((HouseT.w a : Nat) : Int) < 0 <;> first | refine Call0 (pc_szneg (c_laws_szHouse a (1048576 : Int) (by omega) (by omega) hok) hn) rfl rfl ?_ | refine Call0 (pc_szpos (c_laws_szHouse a (1048576 : Int) (by omega) (by omega) hok) hn) rfl rfl ?_)
        | refine CallT (hS (by omega)) rfl rfl rfl rfl (Nat.le_of_ble_eq_true rfl) ?_
        | refine CallT (nid := 20496) (c_laws_toHouse_ro a (by omega)) rfl rfl rfl rfl (Nat.le_of_ble_eq_true rfl) ?_
        | refine CallF (hI (by omega)) rfl rfl rfl (Nat.le_of_ble_eq_true rfl) ?_
        | refine CallF (c_laws_toHouse a (by omega)) rfl rfl rfl (Nat.le_of_ble_eq_true rfl) ?_
        | refine Call0 (pc_true (c_laws_eqHouse a a hok) rfl) rfl rfl ?_)
    | (show Go.Ab.CallD _ _ _ _ _ _ _; first
        | (by_cases hn : (1048576 : Int) - ((HouseT.w a : Nat) : Int) < 0 <;> first | refine CallD0 (pc_szneg (c_laws_szHouse a (1048576 : Int) (by omega) (by omega) hok) hn) rfl rfl rfl ?_ | refine CallD0 (pc_szpos (c_laws_szHouse a (1048576 : Int) (by omega) (by omega) hok) hn) rfl rfl rfl ?_)
        | refine CallDT (hS (by omega)) rfl rfl rfl ⟨rfl, rfl⟩ ?_
        | refine CallDT (nid := 20496) (c_laws_toHouse_ro a (by omega)) rfl rfl rfl ⟨rfl, rfl⟩ ?_
        | refine CallDF (hI (by omega)) rfl rfl ⟨rfl, rfl⟩ ?_
        | refine CallDF (c_laws_toHouse a (by omega)) rfl rfl ⟨rfl, rfl⟩ ?_
        | refine CallD0 (pc_true (c_laws_eqHouse a a hok) rfl) rfl rfl rfl ?_)
    | refine ix_map_at hx ?_
    | refine ix_map_at hy ?_
    | refine sl_pre (by omega) (fun _ => rfl) ?_
    | refine sl_suf (by omega) (fun _ => rfl) ?_
    | (refine ix_map2 hx (by omega) (by (try simp only [List.length_take]); omega) (fun y hy => ?_); try simp only [Int.toNat_natCast] at hy)
    | (refine ix_map (by omega) (by (try simp only [List.length_take]); omega) (fun x hx => ?_); try simp only [Int.toNat_natCast] at hx)
    | refine side_and (side_of (by first | (and_intros <;> first | exact Nat.le_of_ble_eq_true rfl | rfl | omega | (simp only [lensB, lensC, List.length_replicate, midL_len, mkL_length]; omega) | exact bytes_ok (Nat.le_of_ble_eq_true rfl) (by omega) (by simp only [lensB, lensC, List.length_replicate, midL_len, mkL_length]; omega) | exact bytes_okN (Nat.le_of_ble_eq_true rfl) (by simp only [lensB, lensC, List.length_replicate, midL_len, mkL_length]; omega)) | fail)) ?_
    | refine nilB_intro (fun h => ?_) ?_
    | refine side_and (side_of (show Go.Ab.structOk _ _ = true by kernel_rfl)) ?_
    | refine side_and (side_of (map_len (fun _ => rfl))) ?_
    | refine side_and (side_of (map_one (fun _ => rfl) _)) ?_
    | refine side_and ?_ ?_
    | refine LoadK_of rfl rfl ?_
    | refine LoadD_cel rfl rfl rfl rfl ?_
    | refine LoadD_of rfl ?_
    | refine StoreD_of rfl rfl rfl ?_
    | refine AppD_of rfl (by and_intros <;> first | rfl | decide) (by simp only [lensC]; first | (refine ⟨by omega, ?_⟩; refine Nat.le_trans (Nat.mul_le_mul_left _ (show _ ≤ 512 by decide)) ?_; omega) | fail) ?_
    | refine AppN_of rfl rfl (by and_intros <;> rfl) (by simp only [lensC]; first | (refine ⟨by omega, ?_⟩; refine Nat.le_trans (Nat.mul_le_mul_left _ (show _ ≤ 512 by decide)) ?_; omega) | fail) ?_
    | (show False; omega)
  all_goals
    conv => whnf
    refine OutA_plain rfl rfl ?_
    first | rfl | (exfalso; omega) | (exfalso; simp at * <;> omega)
theorem c_laws_FnExactGoodHouse (a : HouseT) (hok : a.ok) : PC Tryz.prog false 5 [.agg a.cells] (.bool true) [] :=
  law_GoodHouse a (okHouse a) hok (fun h => c_spec_GoodHouse a hok h) (fun h => c_impl_GoodHouse a hok h)
end Go.Proofs.YtfpkfnfgloonhaaGreat
