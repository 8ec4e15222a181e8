/-
  What FitsState's functions give (impl.State.fits not: append in a region that draws its order).
  No condition.
-/
import Derived.Test.YtlbnlnepoidjmaaGreatState12b
namespace Go.Proofs.YtlbnlnepoidjmaaGreat
open Go.Ab
set_option linter.unusedSimpArgs false
set_option maxRecDepth 20000
set_option maxHeartbeats 4000000
set_option linter.unusedVariables false

theorem big_bound {L : List (List AV)} {b : Nat} (hL : L.length ≤ 1048577) (hb : b ≤ 4096) : L.length ≤ 70368744177664 ∧ L.length * b ≤ 140737488355328 := ⟨by omega, Nat.le_trans (Nat.mul_le_mul hL hb) (Nat.le_of_ble_eq_true rfl)⟩
theorem big_app {L M : List (List AV)} {b : Nat} (hM : M.length = 1) (hL : L.length ≤ 1048576) (hb : b ≤ 4096) : L.length + M.length ≤ 70368744177664 ∧ (L.length + M.length) * b ≤ 140737488355328 := by
  rw [hM]
  exact ⟨by omega, Nat.le_trans (Nat.mul_le_mul (Nat.succ_le_succ hL) hb) (Nat.le_of_ble_eq_true rfl)⟩
theorem c_Clone_Held (xs : List HeldT) (hl : xs.length ≤ 1048576) : PC Tryz.prog true 99 [.sl (xs.map HeldT.cells)] (.own 0) [⟨false, 128, 5, xs.map HeldT.cells⟩] := by
  refine pc_at Tryz.func99 rfl (by kernel_rfl) 8 [.tmp 2] rfl rfl ?_
  repeat' (conv => whnf); first
    | refine side_and (side_of (big_bound (L := xs.map HeldT.cells) (by rw [List.length_map]; omega) (Nat.le_of_ble_eq_true rfl))) ?_
    | refine nameB_true ?_
    | refine nameB_false ?_
    | refine nameB_yes (by assumption) ?_
    | refine nameB_no (by assumption) ?_
    | refine nameB_dyes (by assumption) ?_
    | refine nameB_dno (by assumption) ?_
    | (refine nameB_dec (fun h => ?_) (fun h => ?_) <;> try simp only [List.length_map, List.length_take, List.length_append, List.length_drop, List.length_set, markList_length, midL_len, mkL_length, Int.toNat_natCast, fact_byte] at h)
    | (refine nameB_cases (fun h => ?_) (fun h => ?_) <;> try simp only [bne_iff_ne, ne_eq, bne_eq_false_iff_eq, beq_iff_eq, beq_eq_false_iff_ne, Bool.not_eq_true', Bool.not_eq_false', Bool.or_eq_true, Bool.or_eq_false_iff, List.length_map, List.length_take, List.length_append, List.length_drop, List.length_set, markList_length, midL_len, mkL_length, Int.toNat_natCast, fact_byte] at h)
    | refine splitB_true ?_
    | refine splitB_false ?_
    | (refine splitB_intro (fun h => ?_) (fun h => ?_) <;> subst h)
    | refine draw_text (by kernel_rfl) (by kernel_rfl) (by kernel_rfl) ?_
    | refine both_intro ?_ ?_
    | exact True.intro
    | refine ix_map_at hx ?_
    | refine ix_map_at hy ?_
    | refine sl_pre (by omega) (fun _ => rfl) ?_
    | refine sl_suf (by omega) (fun _ => rfl) ?_
    | (refine ix_map2 hx (by omega) (by (try simp only [List.length_take]); omega) (fun y hy => ?_); try simp only [Int.toNat_natCast] at hy)
    | (refine ix_map (by omega) (by (try simp only [List.length_take]); omega) (fun x hx => ?_); try simp only [Int.toNat_natCast] at hx)
    | refine side_and (side_of (by first | (and_intros <;> first | exact Nat.le_of_ble_eq_true rfl | rfl | omega | (simp only [List.length_map, List.length_append, List.length_replicate, List.length_take, List.length_cons, List.length_nil, List.length_drop, List.length_set, markList_length, midL_len, mkL_length]; omega) | exact bytes_ok (Nat.le_of_ble_eq_true rfl) (by omega) (by simp only [List.length_map, List.length_append, List.length_replicate, List.length_take, List.length_cons, List.length_nil, List.length_drop, List.length_set, markList_length, midL_len, mkL_length]; omega) | exact bytes_okN (Nat.le_of_ble_eq_true rfl) (by simp only [List.length_map, List.length_append, List.length_replicate, List.length_take, List.length_cons, List.length_nil, List.length_drop, List.length_set, markList_length, midL_len, mkL_length]; omega)) | fail)) ?_
    | refine nilB_intro (fun h => ?_) ?_
    | refine side_and (side_of (show Go.Ab.structOk _ _ = true by kernel_rfl)) ?_
    | refine side_and (side_of (map_len (fun _ => rfl))) ?_
    | refine side_and (side_of (map_one (fun _ => rfl) _)) ?_
    | refine side_and ?_ ?_
    | refine LoadK_of rfl rfl ?_
    | refine LoadD_cel rfl rfl rfl rfl ?_
    | refine LoadD_of rfl ?_
    | refine StoreD_of rfl rfl rfl ?_
    | refine AppD_of rfl (by and_intros <;> first | rfl | decide) (by simp only [List.length_map, List.length_append, List.length_take, List.length_cons, List.length_nil]; first | (refine ⟨by omega, ?_⟩; refine Nat.le_trans (Nat.mul_le_mul_left _ (show _ ≤ 512 by decide)) ?_; omega) | fail) ?_
    | refine AppN_of rfl rfl (by and_intros <;> rfl) (by simp only [List.length_map, List.length_append, List.length_take, List.length_cons, List.length_nil]; first | (refine ⟨by omega, ?_⟩; refine Nat.le_trans (Nat.mul_le_mul_left _ (show _ ≤ 512 by decide)) ?_; omega) | fail) ?_
    | (show False; omega)
  all_goals
    conv => whnf
    first
    | exact OutA_ids rfl rfl rfl ⟨⟨_, _, _, rfl, rfl⟩, trivial⟩ rfl (.inl rfl)
    | exact OutA_nil 2 1 128 5 rfl rfl (by decide) (OutA_ids rfl rfl rfl ⟨⟨_, _, _, rfl, congrArg (AObj.mk false _ _) (map_nil_of (by assumption))⟩, trivial⟩ rfl (.inl rfl))
theorem c_impl_State_fits_1 (g k : HeldT) (ho : g.ok) (ko : k.ok) : PC Tryz.prog false 96 [.agg k.cells, .rp g.cells] (.bool (clashB g k)) [] := by
  refine pc_at Tryz.func96 rfl (by kernel_rfl) 7 [.tmp 3] rfl rfl ?_
  repeat' (conv => whnf); first
    | refine nameB_true ?_
    | refine nameB_false ?_
    | refine nameB_yes (by assumption) ?_
    | refine nameB_no (by assumption) ?_
    | refine nameB_dyes (by assumption) ?_
    | refine nameB_dno (by assumption) ?_
    | (refine nameB_dec (fun h => ?_) (fun h => ?_) <;> try simp only [List.length_map, List.length_take, List.length_append, List.length_drop, List.length_set, markList_length, midL_len, mkL_length, Int.toNat_natCast, fact_byte] at h)
    | (refine nameB_cases (fun h => ?_) (fun h => ?_) <;> try simp only [bne_iff_ne, ne_eq, bne_eq_false_iff_eq, beq_iff_eq, beq_eq_false_iff_ne, Bool.not_eq_true', Bool.not_eq_false', Bool.or_eq_true, Bool.or_eq_false_iff, List.length_map, List.length_take, List.length_append, List.length_drop, List.length_set, markList_length, midL_len, mkL_length, Int.toNat_natCast, fact_byte] at h)
    | refine splitB_true ?_
    | refine splitB_false ?_
    | (refine splitB_intro (fun h => ?_) (fun h => ?_) <;> subst h)
    | refine draw_text (by kernel_rfl) (by kernel_rfl) (by kernel_rfl) ?_
    | refine both_intro ?_ ?_
    | exact True.intro
    | (show Go.Ab.CallA _ _ _ _ _ _ _; refine Call0 (c_impl_clash g k ho ko) rfl rfl ?_)
    | refine ix_map_at hx ?_
    | refine ix_map_at hy ?_
    | refine sl_pre (by omega) (fun _ => rfl) ?_
    | refine sl_suf (by omega) (fun _ => rfl) ?_
    | (refine ix_map2 hx (by omega) (by (try simp only [List.length_take]); omega) (fun y hy => ?_); try simp only [Int.toNat_natCast] at hy)
    | (refine ix_map (by omega) (by (try simp only [List.length_take]); omega) (fun x hx => ?_); try simp only [Int.toNat_natCast] at hx)
    | refine side_and (side_of (by first | (and_intros <;> first | exact Nat.le_of_ble_eq_true rfl | rfl | omega | (simp only [List.length_map, List.length_append, List.length_replicate, List.length_take, List.length_cons, List.length_nil, List.length_drop, List.length_set, markList_length, midL_len, mkL_length]; omega) | exact bytes_ok (Nat.le_of_ble_eq_true rfl) (by omega) (by simp only [List.length_map, List.length_append, List.length_replicate, List.length_take, List.length_cons, List.length_nil, List.length_drop, List.length_set, markList_length, midL_len, mkL_length]; omega) | exact bytes_okN (Nat.le_of_ble_eq_true rfl) (by simp only [List.length_map, List.length_append, List.length_replicate, List.length_take, List.length_cons, List.length_nil, List.length_drop, List.length_set, markList_length, midL_len, mkL_length]; omega)) | fail)) ?_
    | refine nilB_intro (fun h => ?_) ?_
    | refine side_and (side_of (show Go.Ab.structOk _ _ = true by kernel_rfl)) ?_
    | refine side_and (side_of (map_len (fun _ => rfl))) ?_
    | refine side_and (side_of (map_one (fun _ => rfl) _)) ?_
    | refine side_and ?_ ?_
    | refine LoadK_of rfl rfl ?_
    | refine LoadD_cel rfl rfl rfl rfl ?_
    | refine LoadD_of rfl ?_
    | refine StoreD_of rfl rfl rfl ?_
    | refine AppD_of rfl (by and_intros <;> first | rfl | decide) (by simp only [List.length_map, List.length_append, List.length_take, List.length_cons, List.length_nil]; first | (refine ⟨by omega, ?_⟩; refine Nat.le_trans (Nat.mul_le_mul_left _ (show _ ≤ 512 by decide)) ?_; omega) | fail) ?_
    | refine AppN_of rfl rfl (by and_intros <;> rfl) (by simp only [List.length_map, List.length_append, List.length_take, List.length_cons, List.length_nil]; first | (refine ⟨by omega, ?_⟩; refine Nat.le_trans (Nat.mul_le_mul_left _ (show _ ≤ 512 by decide)) ?_; omega) | fail) ?_
    | (show False; omega)
  all_goals
    conv => whnf
    refine OutA_plain rfl rfl ?_
    first
    | rfl
    | (simp only [*, named, AV.sub, AV.sub.subL, Bool.and_true, Bool.and_false, Bool.true_and, Bool.false_and, Bool.or_true, Bool.or_false, Bool.true_or, Bool.false_or, Bool.not_true, Bool.not_false, if_true, if_false, decide_true, decide_false, Bool.false_eq_true, Bool.and_self]; done)
    | (simp_all [named, AV.sub, AV.sub.subL]; done)
    | (simp_all [named, AV.sub, AV.sub.subL] <;> (intros; omega))
    | (exfalso; omega)
def fitsI (s : StateT) (reads : List (List UInt8)) (ws : List WriteT) : Bool := !s.Held.any (clashB (newH reads ws)) && roomI s.Cells (s.Held ++ [newH reads ws])
theorem okL_snoc {α : Type} {p : α → Prop} {xs : List α} {x : α} (h : okL p xs) (hx : p x) (hl : xs.length ≤ 1048576) : okL p (xs ++ [x]) := ⟨by rw [List.length_append]; simp; omega, fun y hy => by
  rcases List.mem_append.1 hy with hy | hy
  · exact h.2 y hy
  · simp at hy; subst hy; exact hx⟩
theorem snoc_cells {xs : List HeldT} {x : HeldT} {L : List (List AV)} (hL : L = [x.cells]) : xs.map HeldT.cells ++ L = (xs ++ [x]).map HeldT.cells := by rw [hL, List.map_append]; rfl
theorem flatW_snoc {hs : List HeldT} {x : HeldT} : flatW (hs ++ [x]) = flatW hs ++ x.Writes.map WriteT.Key := by
  unfold flatW
  rw [List.map_append, List.flatten_append]
  simp
theorem c_impl_State_fits (s : StateT) (reads : List (List UInt8)) (ws : List WriteT) (hok : s.ok) (h1 : okL okS reads) (h2 : okL WriteT.ok ws) (hw : s.w ≤ 1048576) (l2 : ws.length ≤ 1048576) : PC Tryz.prog false 44 [.agg s.cells, .sl (reads.map strC), .sl (ws.map WriteT.cells)] (.bool (fitsI s reads ws)) [] := by
  have hl := hok.2.2.1.1
  have hlw : s.Held.length ≤ 1048576 := by have h3 : s.w = wL CellT.w s.Cells + wL HeldT.w s.Held + s.Told.length := rfl; have := wL_len (w := HeldT.w) (xs := s.Held); omega
  have hsz : s.Cells.length + (flatW (s.Held ++ [newH reads ws])).length ≤ 2097152 := by
    have h3 : s.Cells.length + (allW [] s.Held).length ≤ 1048576 := state_szW hw
    rw [allW_flat] at h3
    rw [flatW_snoc, List.length_append, List.length_map]
    show s.Cells.length + ((flatW s.Held).length + ws.length) ≤ 2097152
    omega
  refine pc_at Tryz.func44 rfl (by kernel_rfl) 23 [.tmp 6] rfl rfl ?_
  repeat' (conv => whnf); first
    | (show Go.Ab.drawA _ _ _ _ _; refine draw_exp (.take 1 (.fork 0 (.fork 2 (.fork 3 (.fork 4 (.fork 5 (.fork 6 (.fork 7 (.take 8 (.done)) (.stop)) (.stop)) (.stop)) (.stop)) (.fork 4 (.fork 3 (.fork 5 (.fork 6 (.fork 7 (.take 8 (.done)) (.stop)) (.stop)) (.stop)) (.fork 5 (.fork 3 (.fork 6 (.fork 7 (.take 8 (.done)) (.stop)) (.stop)) (.stop)) (.stop))) (.stop))) (.fork 4 (.fork 2 (.fork 3 (.fork 5 (.fork 6 (.fork 7 (.take 8 (.done)) (.stop)) (.stop)) (.stop)) (.fork 5 (.fork 3 (.fork 6 (.fork 7 (.take 8 (.done)) (.stop)) (.stop)) (.stop)) (.stop))) (.fork 5 (.fork 2 (.fork 3 (.fork 6 (.fork 7 (.take 8 (.done)) (.stop)) (.stop)) (.stop)) (.stop)) (.stop))) (.stop))) (.fork 2 (.fork 0 (.fork 3 (.fork 4 (.fork 5 (.fork 6 (.fork 7 (.take 8 (.done)) (.stop)) (.stop)) (.stop)) (.stop)) (.fork 4 (.fork 3 (.fork 5 (.fork 6 (.fork 7 (.take 8 (.done)) (.stop)) (.stop)) (.stop)) (.fork 5 (.fork 3 (.fork 6 (.fork 7 (.take 8 (.done)) (.stop)) (.stop)) (.stop)) (.stop))) (.stop))) (.fork 3 (.fork 0 (.fork 4 (.fork 5 (.fork 6 (.fork 7 (.take 8 (.done)) (.stop)) (.stop)) (.stop)) (.stop)) (.fork 4 (.fork 0 (.fork 5 (.fork 6 (.fork 7 (.take 8 (.done)) (.stop)) (.stop)) (.stop)) (.fork 5 (.fork 0 (.fork 6 (.fork 7 (.take 8 (.done)) (.stop)) (.stop)) (.fork 6 (.fork 0 (.fork 7 (.take 8 (.done)) (.stop)) (.stop)) (.stop))) (.stop))) (.stop))) (.fork 4 (.fork 0 (.fork 3 (.fork 5 (.fork 6 (.fork 7 (.take 8 (.done)) (.stop)) (.stop)) (.stop)) (.fork 5 (.fork 3 (.fork 6 (.fork 7 (.take 8 (.done)) (.stop)) (.stop)) (.stop)) (.stop))) (.fork 3 (.fork 0 (.fork 5 (.fork 6 (.fork 7 (.take 8 (.done)) (.stop)) (.stop)) (.stop)) (.fork 5 (.fork 0 (.fork 6 (.fork 7 (.take 8 (.done)) (.stop)) (.stop)) (.fork 6 (.fork 0 (.fork 7 (.take 8 (.done)) (.stop)) (.stop)) (.stop))) (.stop))) (.fork 5 (.fork 0 (.fork 3 (.fork 6 (.fork 7 (.take 8 (.done)) (.stop)) (.stop)) (.stop)) (.fork 3 (.fork 0 (.fork 6 (.fork 7 (.take 8 (.done)) (.stop)) (.stop)) (.fork 6 (.fork 0 (.fork 7 (.take 8 (.done)) (.stop)) (.stop)) (.stop))) (.stop))) (.stop)))) (.stop)))) (.fork 4 (.fork 0 (.fork 2 (.fork 3 (.fork 5 (.fork 6 (.fork 7 (.take 8 (.done)) (.stop)) (.stop)) (.stop)) (.fork 5 (.fork 3 (.fork 6 (.fork 7 (.take 8 (.done)) (.stop)) (.stop)) (.stop)) (.stop))) (.fork 5 (.fork 2 (.fork 3 (.fork 6 (.fork 7 (.take 8 (.done)) (.stop)) (.stop)) (.stop)) (.stop)) (.stop))) (.fork 2 (.fork 0 (.fork 3 (.fork 5 (.fork 6 (.fork 7 (.take 8 (.done)) (.stop)) (.stop)) (.stop)) (.fork 5 (.fork 3 (.fork 6 (.fork 7 (.take 8 (.done)) (.stop)) (.stop)) (.stop)) (.stop))) (.fork 3 (.fork 0 (.fork 5 (.fork 6 (.fork 7 (.take 8 (.done)) (.stop)) (.stop)) (.stop)) (.fork 5 (.fork 0 (.fork 6 (.fork 7 (.take 8 (.done)) (.stop)) (.stop)) (.fork 6 (.fork 0 (.fork 7 (.take 8 (.done)) (.stop)) (.stop)) (.stop))) (.stop))) (.fork 5 (.fork 0 (.fork 3 (.fork 6 (.fork 7 (.take 8 (.done)) (.stop)) (.stop)) (.stop)) (.fork 3 (.fork 0 (.fork 6 (.fork 7 (.take 8 (.done)) (.stop)) (.stop)) (.fork 6 (.fork 0 (.fork 7 (.take 8 (.done)) (.stop)) (.stop)) (.stop))) (.stop))) (.stop)))) (.fork 5 (.fork 0 (.fork 2 (.fork 3 (.fork 6 (.fork 7 (.take 8 (.done)) (.stop)) (.stop)) (.stop)) (.stop)) (.fork 2 (.fork 0 (.fork 3 (.fork 6 (.fork 7 (.take 8 (.done)) (.stop)) (.stop)) (.stop)) (.fork 3 (.fork 0 (.fork 6 (.fork 7 (.take 8 (.done)) (.stop)) (.stop)) (.fork 6 (.fork 0 (.fork 7 (.take 8 (.done)) (.stop)) (.stop)) (.stop))) (.stop))) (.stop))) (.stop)))) (.stop))))) (by kernel_rfl) (by kernel_rfl) (by kernel_rfl) ?_)
    | refine side_and (side_of (big_app (L := s.Held.map HeldT.cells) rfl (by rw [List.length_map]; omega) (Nat.le_of_ble_eq_true rfl))) ?_
    | refine side_and (side_of (one_lenC rfl rfl)) ?_
    | refine side_and (side_of (by first | (and_intros <;> first | exact Nat.le_of_ble_eq_true rfl | rfl | (intro e; exact absurd (AV.own.inj e) (by decide)) | (intro e; exact AV.noConfusion e)) | fail)) ?_
    | refine side_and (side_of (app_boundC (L := s.Held.map HeldT.cells) rfl (by (try simp only [List.length_map, List.length_append, List.length_take, List.length_set, List.length_drop]); omega) (Nat.le_of_ble_eq_true rfl))) ?_
    | (refine nameB_cases (b := s.Held.any _) (fun h => ?_) (fun h => ?_))
    | refine nameB_true ?_
    | refine nameB_false ?_
    | refine nameB_yes (by assumption) ?_
    | refine nameB_no (by assumption) ?_
    | refine nameB_dyes (by assumption) ?_
    | refine nameB_dno (by assumption) ?_
    | (refine nameB_dec (fun h => ?_) (fun h => ?_) <;> try simp only [List.length_map, List.length_take, List.length_append, List.length_drop, List.length_set, markList_length, midL_len, mkL_length, Int.toNat_natCast, fact_byte] at h)
    | (refine nameB_cases (fun h => ?_) (fun h => ?_) <;> try simp only [bne_iff_ne, ne_eq, bne_eq_false_iff_eq, beq_iff_eq, beq_eq_false_iff_ne, Bool.not_eq_true', Bool.not_eq_false', Bool.or_eq_true, Bool.or_eq_false_iff, List.length_map, List.length_take, List.length_append, List.length_drop, List.length_set, markList_length, midL_len, mkL_length, Int.toNat_natCast, fact_byte] at h)
    | refine splitB_true ?_
    | refine splitB_false ?_
    | (refine splitB_intro (fun h => ?_) (fun h => ?_) <;> subst h)
    | refine draw_text (by kernel_rfl) (by kernel_rfl) (by kernel_rfl) ?_
    | refine both_intro ?_ ?_
    | exact True.intro
    | (show Go.Ab.CallA _ _ _ _ _ _ _; first
        | refine Call0 (c_ContainsFunc_Held s.Held 96 [.rp (newH reads ws).cells] (clashB (newH reads ws)) hl ⟨fun _ => rfl, fun _ => rfl, fun _ => rfl, fun _ => rfl, fun _ => rfl⟩ (fun x hx => c_impl_State_fits_1 (newH reads ws) x (newH_ok h1 h2) (hok.2.2.1.2 x hx))) rfl rfl ?_
        | refine CallT (c_Clone_Held s.Held hlw) rfl rfl rfl rfl (Nat.le_of_ble_eq_true rfl) ?_
        | refine Call0 (c_impl_State_room s (s.Held ++ [newH reads ws]) hok (okL_snoc hok.2.2.1 (newH_ok h1 h2) hlw) hsz) (congrArg (fun l => [AV.agg s.cells, AV.sl l]) (snoc_cells rfl)) rfl ?_)
    | (show Go.Ab.CallD _ _ _ _ _ _ _; first
        | refine CallD0 (c_ContainsFunc_Held s.Held 96 [.rp (newH reads ws).cells] (clashB (newH reads ws)) hl ⟨fun _ => rfl, fun _ => rfl, fun _ => rfl, fun _ => rfl, fun _ => rfl⟩ (fun x hx => c_impl_State_fits_1 (newH reads ws) x (newH_ok h1 h2) (hok.2.2.1.2 x hx))) rfl rfl rfl ?_
        | refine CallDT (c_Clone_Held s.Held hlw) rfl rfl rfl ⟨rfl, rfl⟩ ?_
        | refine CallD0 (c_impl_State_room s (s.Held ++ [newH reads ws]) hok (okL_snoc hok.2.2.1 (newH_ok h1 h2) hlw) hsz) (congrArg (fun l => [AV.agg s.cells, AV.sl l]) (snoc_cells rfl)) rfl ?_)
    | refine ix_map_at hx ?_
    | refine ix_map_at hy ?_
    | refine sl_pre (by omega) (fun _ => rfl) ?_
    | refine sl_suf (by omega) (fun _ => rfl) ?_
    | (refine ix_map2 hx (by omega) (by (try simp only [List.length_take]); omega) (fun y hy => ?_); try simp only [Int.toNat_natCast] at hy)
    | (refine ix_map (by omega) (by (try simp only [List.length_take]); omega) (fun x hx => ?_); try simp only [Int.toNat_natCast] at hx)
    | refine side_and (side_of (by first | (and_intros <;> first | exact Nat.le_of_ble_eq_true rfl | rfl | omega | (simp only [List.length_map, List.length_append, List.length_replicate, List.length_take, List.length_cons, List.length_nil, List.length_drop, List.length_set, markList_length, midL_len, mkL_length]; omega) | exact bytes_ok (Nat.le_of_ble_eq_true rfl) (by omega) (by simp only [List.length_map, List.length_append, List.length_replicate, List.length_take, List.length_cons, List.length_nil, List.length_drop, List.length_set, markList_length, midL_len, mkL_length]; omega) | exact bytes_okN (Nat.le_of_ble_eq_true rfl) (by simp only [List.length_map, List.length_append, List.length_replicate, List.length_take, List.length_cons, List.length_nil, List.length_drop, List.length_set, markList_length, midL_len, mkL_length]; omega)) | fail)) ?_
    | refine nilB_intro (fun h => ?_) ?_
    | refine side_and (side_of (show Go.Ab.structOk _ _ = true by kernel_rfl)) ?_
    | refine side_and (side_of (map_len (fun _ => rfl))) ?_
    | refine side_and (side_of (map_one (fun _ => rfl) _)) ?_
    | refine side_and ?_ ?_
    | refine LoadK_of rfl rfl ?_
    | refine LoadD_cel rfl rfl rfl rfl ?_
    | refine LoadD_of rfl ?_
    | refine StoreD_of rfl rfl rfl ?_
    | refine AppD_of rfl (by and_intros <;> first | rfl | decide) (by simp only [List.length_map, List.length_append, List.length_take, List.length_cons, List.length_nil]; first | (refine ⟨by omega, ?_⟩; refine Nat.le_trans (Nat.mul_le_mul_left _ (show _ ≤ 512 by decide)) ?_; omega) | fail) ?_
    | refine AppN_of rfl rfl (by and_intros <;> rfl) (by simp only [List.length_map, List.length_append, List.length_take, List.length_cons, List.length_nil]; first | (refine ⟨by omega, ?_⟩; refine Nat.le_trans (Nat.mul_le_mul_left _ (show _ ≤ 512 by decide)) ?_; omega) | fail) ?_
    | (show False; omega)
  all_goals
    conv => whnf
    refine OutA_plain rfl rfl ?_
    first
    | rfl
    | (simp only [fitsI, *, named, AV.sub, AV.sub.subL, Bool.and_true, Bool.and_false, Bool.true_and, Bool.false_and, Bool.or_true, Bool.or_false, Bool.true_or, Bool.false_or, Bool.not_true, Bool.not_false, if_true, if_false, decide_true, decide_false, Bool.false_eq_true, Bool.and_self]; done)
    | (simp_all [fitsI, named, AV.sub, AV.sub.subL]; done)
    | (simp_all [fitsI, named, AV.sub, AV.sub.subL] <;> (intros; omega))
    | (exfalso; omega)
def okFit (s : StateT) (reads : List (List UInt8)) (ws : List WriteT) : Bool := okStateS s && okRec (newR 1 reads ws)
def fitsS (s : StateT) (reads : List (List UInt8)) (ws : List WriteT) : Bool := (s.Held.all fun g => apartS g reads ws) && (decide ((s.Held.length : Int) < 12) && roomS s.Cells s.Held ws)
theorem c_spec_l13Fits (s : StateT) (reads : List (List UInt8)) (ws : List WriteT) (hok : s.ok) (h1 : okL okS reads) (h2 : okL WriteT.ok ws) (hsz : s.Cells.length + (allW ws s.Held).length ≤ 1048576) : PC Tryz.prog false 37 [.agg s.cells, .sl (reads.map strC), .sl (ws.map WriteT.cells)] (.bool (fitsS s reads ws)) [] := by
  have hl := hok.2.2.1.1
  refine pc_at Tryz.func37 rfl (by kernel_rfl) 31 [.tmp 6] rfl rfl ?_
  repeat' (conv => whnf); first
    | (refine nameB_cases (b := apartS x reads ws) (fun h => ?_) (fun h => ?_))
    | refine nameB_true ?_
    | refine nameB_false ?_
    | refine nameB_yes (by assumption) ?_
    | refine nameB_no (by assumption) ?_
    | refine nameB_dyes (by assumption) ?_
    | refine nameB_dno (by assumption) ?_
    | (refine nameB_dec (fun h => ?_) (fun h => ?_) <;> try simp only [List.length_map, List.length_take, List.length_append, List.length_drop, List.length_set, markList_length, midL_len, mkL_length, Int.toNat_natCast, fact_byte] at h)
    | (refine nameB_cases (fun h => ?_) (fun h => ?_) <;> try simp only [bne_iff_ne, ne_eq, bne_eq_false_iff_eq, beq_iff_eq, beq_eq_false_iff_ne, Bool.not_eq_true', Bool.not_eq_false', Bool.or_eq_true, Bool.or_eq_false_iff, List.length_map, List.length_take, List.length_append, List.length_drop, List.length_set, markList_length, midL_len, mkL_length, Int.toNat_natCast, fact_byte] at h)
    | refine splitB_true ?_
    | refine splitB_false ?_
    | (refine splitB_intro (fun h => ?_) (fun h => ?_) <;> subst h)
    | refine draw_text (by kernel_rfl) (by kernel_rfl) (by kernel_rfl) ?_
    | refine both_intro ?_ ?_
    | exact True.intro
    | (show Go.Ab.Loop _ _ _; (refine Loop_at [1, 2, 3, 10, 11] [0] (Nat) (fun k => ((s.Held.drop k).all fun g => apartS g reads ws) = (s.Held.all fun g => apartS g reads ws) ∧ k ≤ s.Held.length) (fun k => [(12, .int .i64 (k : Nat))]) (fun k => []) (fun k => s.Held.length - k) 0 ⟨by first | (simp_all <;> fail) | rfl | fail, trivial⟩ trivial (by (try dsimp only); first | (exact ⟨rfl, by omega⟩) | fail) ?_; (conv => whnf); refine side_and (side_of (by first | exact fun k => rfl | exact fun k => by simp [headOk, closedE, closedO, closedL, AV.closed, hcap.closed, hasId, AObj.box, BK.ofB])) ?_; rintro k hT; try dsimp only at hT))
    | (show Go.Ab.Again _ _ _ _ _ _ _ _ _ _ _; refine Again_of (k + 1) ⟨by first | rfl | exact i64_next (by omega) | (simp_all <;> fail) | fail, trivial⟩ trivial (by first | (and_intros <;> first | rfl | trivial) | fail) (by first | (and_intros <;> first | rfl | trivial) | fail) rfl rfl rfl (by (try dsimp only); first | (exact ⟨all_go hT.1 hx (by assumption), by omega⟩) | fail) (show _ < _ by (try dsimp only); omega))
    | (show Go.Ab.CallA _ _ _ _ _ _ _; first
        | refine Call0 (c_spec_l13Apart x reads ws (hok.2.2.1.2 x (List.mem_of_getElem? hx)) h1.1 h2.1) rfl rfl ?_
        | refine Call0 (c_spec_l13Room s ws hok hsz) rfl rfl ?_)
    | refine ix_map_at hx ?_
    | refine ix_map_at hy ?_
    | refine sl_pre (by omega) (fun _ => rfl) ?_
    | refine sl_suf (by omega) (fun _ => rfl) ?_
    | (refine ix_map2 hx (by omega) (by (try simp only [List.length_take]); omega) (fun y hy => ?_); try simp only [Int.toNat_natCast] at hy)
    | (refine ix_map (by omega) (by (try simp only [List.length_take]); omega) (fun x hx => ?_); try simp only [Int.toNat_natCast] at hx)
    | refine side_and (side_of (by first | (and_intros <;> first | exact Nat.le_of_ble_eq_true rfl | rfl | omega | (simp only [List.length_map, List.length_append, List.length_replicate, List.length_take, List.length_cons, List.length_nil, List.length_drop, List.length_set, markList_length, midL_len, mkL_length]; omega) | exact bytes_ok (Nat.le_of_ble_eq_true rfl) (by omega) (by simp only [List.length_map, List.length_append, List.length_replicate, List.length_take, List.length_cons, List.length_nil, List.length_drop, List.length_set, markList_length, midL_len, mkL_length]; omega) | exact bytes_okN (Nat.le_of_ble_eq_true rfl) (by simp only [List.length_map, List.length_append, List.length_replicate, List.length_take, List.length_cons, List.length_nil, List.length_drop, List.length_set, markList_length, midL_len, mkL_length]; omega)) | fail)) ?_
    | refine nilB_intro (fun h => ?_) ?_
    | refine side_and (side_of (show Go.Ab.structOk _ _ = true by kernel_rfl)) ?_
    | refine side_and (side_of (map_len (fun _ => rfl))) ?_
    | refine side_and (side_of (map_one (fun _ => rfl) _)) ?_
    | refine side_and ?_ ?_
    | refine LoadK_of rfl rfl ?_
    | refine LoadD_cel rfl rfl rfl rfl ?_
    | refine LoadD_of rfl ?_
    | refine StoreD_of rfl rfl rfl ?_
    | refine AppD_of rfl (by and_intros <;> first | rfl | decide) (by simp only [List.length_map, List.length_append, List.length_take, List.length_cons, List.length_nil]; first | (refine ⟨by omega, ?_⟩; refine Nat.le_trans (Nat.mul_le_mul_left _ (show _ ≤ 512 by decide)) ?_; omega) | fail) ?_
    | refine AppN_of rfl rfl (by and_intros <;> rfl) (by simp only [List.length_map, List.length_append, List.length_take, List.length_cons, List.length_nil]; first | (refine ⟨by omega, ?_⟩; refine Nat.le_trans (Nat.mul_le_mul_left _ (show _ ≤ 512 by decide)) ?_; omega) | fail) ?_
    | (show False; omega)
  all_goals
    conv => whnf
    refine OutA_plain rfl rfl ?_
    first
    | (have hb := all_bad hT.1 hx (by assumption); simp only [fitsS, hb, Bool.false_and]; rfl)
    | (have hb := all_end hT.1 (by assumption); simp only [fitsS, hb, *, Bool.true_and, Bool.false_and, decide_true, decide_false]; rfl)
theorem fits_eq {s : StateT} {reads : List (List UInt8)} {ws : List WriteT} (h : okStateS s = true) (hw : okWrites ws = true) : fitsI s reads ws = fitsS s reads ws := by
  have hc : okCells s.Cells = true := by
    simp only [okStateS, Bool.and_eq_true] at h
    exact h.1.1.1.2
  unfold fitsI fitsS
  have e1 : (!s.Held.any (clashB (newH reads ws))) = (s.Held.all fun g => apartS g reads ws) := by
    rw [Bool.eq_iff_iff]
    simp only [Bool.not_eq_true', List.any_eq_false, List.all_eq_true]
    constructor
    · intro q g hg
      have := q g hg
      rw [clash_apart (h := newH reads ws) hw (okState_writes h hg)] at this
      cases hq : apartS g reads ws with
      | true => rfl
      | false => exact absurd (show (!apartS g (newH reads ws).Reads (newH reads ws).Writes) = true from (by show (!apartS g reads ws) = true; rw [hq]; rfl)) this
    · intro q g hg
      rw [clash_apart (h := newH reads ws) hw (okState_writes h hg)]
      have := q g hg
      simp [newH, this]
  have e2 : roomI s.Cells (s.Held ++ [newH reads ws]) = (decide ((s.Held.length : Int) < 12) && roomS s.Cells s.Held ws) := by
    unfold roomI roomS
    have f1 : ((s.Held ++ [newH reads ws]).any fun h => h.Writes.any (fullI s.Cells)) = (allW ws s.Held).any (fullS s.Cells) := by
      rw [List.any_append, any_flat]
      unfold allW
      rw [List.any_append, Bool.or_comm]
      have : fullI s.Cells = fullS s.Cells := funext fun w => full_eq hc w
      rw [this]
      simp [newH]
    have f2 := keys_len s.Cells s.Held ws
    rw [f1]
    unfold keysI
    rw [flatW_snoc]
    show (_ && (_ && decide (((compS (sortS (s.Cells.map CellT.Key ++ (flatW s.Held ++ ws.map WriteT.Key)))).length : Int) ≤ 24))) = _
    rw [f2]
    have f3 : decide (((s.Held ++ [newH reads ws]).length : Int) ≤ 12) = decide ((s.Held.length : Int) < 12) := by
      rw [List.length_append]
      simp only [List.length_cons, List.length_nil]
      by_cases q : (s.Held.length : Int) < 12
      · rw [decide_eq_true q, decide_eq_true (by omega)]
      · rw [decide_eq_false q, decide_eq_false (by omega)]
    rw [f3]
    cases (allW ws s.Held).any (fullS s.Cells) <;> simp
  rw [e1, e2]
theorem c_impl_FitsState (s : StateT) (reads : List (List UInt8)) (ws : List WriteT) (hok : s.ok) (h1 : okL okS reads) (h2 : okL WriteT.ok ws) (hw : s.w ≤ 1048576) (l1 : reads.length ≤ 1048576) (l2 : ws.length ≤ 1048576) : PC Tryz.prog false 13 [.agg s.cells, .sl (reads.map strC), .sl (ws.map WriteT.cells)] (.tup [.bool (okFit s reads ws && fitsS s reads ws), .bool (okFit s reads ws)]) [] := by
  refine pc_at Tryz.func13 rfl (by kernel_rfl) 21 [.tmp 6, .tmp 7] rfl rfl ?_
  repeat' (conv => whnf); first
    | refine nameB_self (b := fitsI s reads ws) ?_
    | refine nameB_true ?_
    | refine nameB_false ?_
    | refine nameB_yes (by assumption) ?_
    | refine nameB_no (by assumption) ?_
    | refine nameB_dyes (by assumption) ?_
    | refine nameB_dno (by assumption) ?_
    | (refine nameB_dec (fun h => ?_) (fun h => ?_) <;> try simp only [List.length_map, List.length_take, List.length_append, List.length_drop, List.length_set, markList_length, midL_len, mkL_length, Int.toNat_natCast, fact_byte] at h)
    | (refine nameB_cases (fun h => ?_) (fun h => ?_) <;> try simp only [bne_iff_ne, ne_eq, bne_eq_false_iff_eq, beq_iff_eq, beq_eq_false_iff_ne, Bool.not_eq_true', Bool.not_eq_false', Bool.or_eq_true, Bool.or_eq_false_iff, List.length_map, List.length_take, List.length_append, List.length_drop, List.length_set, markList_length, midL_len, mkL_length, Int.toNat_natCast, fact_byte] at h)
    | refine splitB_true ?_
    | refine splitB_false ?_
    | (refine splitB_intro (fun h => ?_) (fun h => ?_) <;> subst h)
    | refine draw_text (by kernel_rfl) (by kernel_rfl) (by kernel_rfl) ?_
    | refine both_intro ?_ ?_
    | exact True.intro
    | (show Go.Ab.CallA _ _ _ _ _ _ _; first
        | refine Call0 (c_impl_GoodState2 s hok hw) rfl rfl ?_
        | refine Call0 (c_impl_areParts reads ws h1 h2 l1 l2) rfl rfl ?_
        | refine Call0 (c_impl_State_fits s reads ws hok h1 h2 hw l2) rfl rfl ?_)
    | refine ix_map_at hx ?_
    | refine ix_map_at hy ?_
    | refine sl_pre (by omega) (fun _ => rfl) ?_
    | refine sl_suf (by omega) (fun _ => rfl) ?_
    | (refine ix_map2 hx (by omega) (by (try simp only [List.length_take]); omega) (fun y hy => ?_); try simp only [Int.toNat_natCast] at hy)
    | (refine ix_map (by omega) (by (try simp only [List.length_take]); omega) (fun x hx => ?_); try simp only [Int.toNat_natCast] at hx)
    | refine side_and (side_of (by first | (and_intros <;> first | exact Nat.le_of_ble_eq_true rfl | rfl | omega | (simp only [List.length_map, List.length_append, List.length_replicate, List.length_take, List.length_cons, List.length_nil, List.length_drop, List.length_set, markList_length, midL_len, mkL_length]; omega) | exact bytes_ok (Nat.le_of_ble_eq_true rfl) (by omega) (by simp only [List.length_map, List.length_append, List.length_replicate, List.length_take, List.length_cons, List.length_nil, List.length_drop, List.length_set, markList_length, midL_len, mkL_length]; omega) | exact bytes_okN (Nat.le_of_ble_eq_true rfl) (by simp only [List.length_map, List.length_append, List.length_replicate, List.length_take, List.length_cons, List.length_nil, List.length_drop, List.length_set, markList_length, midL_len, mkL_length]; omega)) | fail)) ?_
    | refine nilB_intro (fun h => ?_) ?_
    | refine side_and (side_of (show Go.Ab.structOk _ _ = true by kernel_rfl)) ?_
    | refine side_and (side_of (map_len (fun _ => rfl))) ?_
    | refine side_and (side_of (map_one (fun _ => rfl) _)) ?_
    | refine side_and ?_ ?_
    | refine LoadK_of rfl rfl ?_
    | refine LoadD_cel rfl rfl rfl rfl ?_
    | refine LoadD_of rfl ?_
    | refine StoreD_of rfl rfl rfl ?_
    | refine AppD_of rfl (by and_intros <;> first | rfl | decide) (by simp only [List.length_map, List.length_append, List.length_take, List.length_cons, List.length_nil]; first | (refine ⟨by omega, ?_⟩; refine Nat.le_trans (Nat.mul_le_mul_left _ (show _ ≤ 512 by decide)) ?_; omega) | fail) ?_
    | refine AppN_of rfl rfl (by and_intros <;> rfl) (by simp only [List.length_map, List.length_append, List.length_take, List.length_cons, List.length_nil]; first | (refine ⟨by omega, ?_⟩; refine Nat.le_trans (Nat.mul_le_mul_left _ (show _ ≤ 512 by decide)) ?_; omega) | fail) ?_
    | (show False; omega)
  all_goals
    conv => whnf
    refine OutA_plain rfl rfl ?_
    first
    | (simp only [okFit, *, Bool.false_and, Bool.and_false, Bool.true_and]; rfl)
    | (rw [fits_eq (by assumption) (newR_writes (by assumption))]; simp only [okFit, *, Bool.false_and, Bool.and_false, Bool.true_and]; rfl)
theorem c_spec_FitsState (s : StateT) (reads : List (List UInt8)) (ws : List WriteT) (hok : s.ok) (h1 : okL okS reads) (h2 : okL WriteT.ok ws) (hw : s.w ≤ 1048576) (l1 : reads.length ≤ 1048576) (hsz : s.Cells.length + (allW ws s.Held).length ≤ 1048576) : PC Tryz.prog false 9 [.agg s.cells, .sl (reads.map strC), .sl (ws.map WriteT.cells)] (.tup [.bool (okFit s reads ws && fitsS s reads ws), .bool (okFit s reads ws)]) [] := by
  have l2 : ws.length ≤ 1048576 := by unfold allW at hsz; rw [List.length_append] at hsz; omega
  refine pc_at Tryz.func9 rfl (by kernel_rfl) 22 [.tmp 6, .tmp 7] rfl rfl ?_
  repeat' (conv => whnf); first
    | refine nameB_self (b := fitsS s reads ws) ?_
    | refine nameB_true ?_
    | refine nameB_false ?_
    | refine nameB_yes (by assumption) ?_
    | refine nameB_no (by assumption) ?_
    | refine nameB_dyes (by assumption) ?_
    | refine nameB_dno (by assumption) ?_
    | (refine nameB_dec (fun h => ?_) (fun h => ?_) <;> try simp only [List.length_map, List.length_take, List.length_append, List.length_drop, List.length_set, markList_length, midL_len, mkL_length, Int.toNat_natCast, fact_byte] at h)
    | (refine nameB_cases (fun h => ?_) (fun h => ?_) <;> try simp only [bne_iff_ne, ne_eq, bne_eq_false_iff_eq, beq_iff_eq, beq_eq_false_iff_ne, Bool.not_eq_true', Bool.not_eq_false', Bool.or_eq_true, Bool.or_eq_false_iff, List.length_map, List.length_take, List.length_append, List.length_drop, List.length_set, markList_length, midL_len, mkL_length, Int.toNat_natCast, fact_byte] at h)
    | refine splitB_true ?_
    | refine splitB_false ?_
    | (refine splitB_intro (fun h => ?_) (fun h => ?_) <;> subst h)
    | refine draw_text (by kernel_rfl) (by kernel_rfl) (by kernel_rfl) ?_
    | refine both_intro ?_ ?_
    | exact True.intro
    | (show Go.Ab.CallA _ _ _ _ _ _ _; first
        | refine Call0 (c_spec_l13Good s hok hw) rfl rfl ?_
        | refine Call0 (c_spec_l4Good (newR 1 reads ws) (newR_ok h1 h2) l2 l1) rfl rfl ?_
        | refine Call0 (c_spec_l13Fits s reads ws hok h1 h2 hsz) rfl rfl ?_)
    | refine ix_map_at hx ?_
    | refine ix_map_at hy ?_
    | refine sl_pre (by omega) (fun _ => rfl) ?_
    | refine sl_suf (by omega) (fun _ => rfl) ?_
    | (refine ix_map2 hx (by omega) (by (try simp only [List.length_take]); omega) (fun y hy => ?_); try simp only [Int.toNat_natCast] at hy)
    | (refine ix_map (by omega) (by (try simp only [List.length_take]); omega) (fun x hx => ?_); try simp only [Int.toNat_natCast] at hx)
    | refine side_and (side_of (by first | (and_intros <;> first | exact Nat.le_of_ble_eq_true rfl | rfl | omega | (simp only [List.length_map, List.length_append, List.length_replicate, List.length_take, List.length_cons, List.length_nil, List.length_drop, List.length_set, markList_length, midL_len, mkL_length]; omega) | exact bytes_ok (Nat.le_of_ble_eq_true rfl) (by omega) (by simp only [List.length_map, List.length_append, List.length_replicate, List.length_take, List.length_cons, List.length_nil, List.length_drop, List.length_set, markList_length, midL_len, mkL_length]; omega) | exact bytes_okN (Nat.le_of_ble_eq_true rfl) (by simp only [List.length_map, List.length_append, List.length_replicate, List.length_take, List.length_cons, List.length_nil, List.length_drop, List.length_set, markList_length, midL_len, mkL_length]; omega)) | fail)) ?_
    | refine nilB_intro (fun h => ?_) ?_
    | refine side_and (side_of (show Go.Ab.structOk _ _ = true by kernel_rfl)) ?_
    | refine side_and (side_of (map_len (fun _ => rfl))) ?_
    | refine side_and (side_of (map_one (fun _ => rfl) _)) ?_
    | refine side_and ?_ ?_
    | refine LoadK_of rfl rfl ?_
    | refine LoadD_cel rfl rfl rfl rfl ?_
    | refine LoadD_of rfl ?_
    | refine StoreD_of rfl rfl rfl ?_
    | refine AppD_of rfl (by and_intros <;> first | rfl | decide) (by simp only [List.length_map, List.length_append, List.length_take, List.length_cons, List.length_nil]; first | (refine ⟨by omega, ?_⟩; refine Nat.le_trans (Nat.mul_le_mul_left _ (show _ ≤ 512 by decide)) ?_; omega) | fail) ?_
    | refine AppN_of rfl rfl (by and_intros <;> rfl) (by simp only [List.length_map, List.length_append, List.length_take, List.length_cons, List.length_nil]; first | (refine ⟨by omega, ?_⟩; refine Nat.le_trans (Nat.mul_le_mul_left _ (show _ ≤ 512 by decide)) ?_; omega) | fail) ?_
    | (show False; omega)
  all_goals
    conv => whnf
    refine OutA_plain rfl rfl ?_
    simp only [okFit, *, Bool.false_and, Bool.and_false, Bool.true_and]
    rfl
theorem allW_sz {s : StateT} {ws : List WriteT} (h : s.w + wL WriteT.w ws ≤ 1048576) : s.Cells.length + (allW ws s.Held).length ≤ 1048576 := by
  have h1 := flatW_w s.Held
  have h2 : s.Cells.length ≤ wL CellT.w s.Cells := wL_len
  have h3 : s.w = wL CellT.w s.Cells + wL HeldT.w s.Held + s.Told.length := rfl
  have h4 : ws.length ≤ wL WriteT.w ws := wL_len
  have h5 : (allW ws s.Held).length = ws.length + (allW [] s.Held).length := by unfold allW; simp
  rw [h5, allW_flat]
  omega
end Go.Proofs.YtlbnlnepoidjmaaGreat
