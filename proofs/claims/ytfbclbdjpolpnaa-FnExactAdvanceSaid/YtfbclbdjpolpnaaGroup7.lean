/-
  CrashRep's law.
  No condition.
-/
import Derived.Test.YtfbclbdjpolpnaaGroup6
namespace Go.Proofs.Ytfbclbdjpolpnaa
open Go.Ab
set_option linter.unusedSimpArgs false
set_option maxRecDepth 20000
set_option maxHeartbeats 4000000
set_option linter.unusedVariables false

theorem setRep_mem {g : GroupT} {r : Int} {f : ReplicaT → ReplicaT} {y : ReplicaT} (h : y ∈ setRep g r f) : y ∈ g.Reps ∨ ∃ x ∈ g.Reps, y = f x := by
  unfold setRep at h
  split at h
  · rename_i x hx
    rcases List.mem_or_eq_of_mem_set h with h | h
    · exact .inl h
    · exact .inr ⟨x, List.mem_of_getElem? hx, h⟩
  · exact .inl h
theorem setRep_len {g : GroupT} {r : Int} {f : ReplicaT → ReplicaT} : (setRep g r f).length = g.Reps.length := by
  unfold setRep
  split
  · rw [List.length_set]
  · rfl
theorem setRep_ok {g : GroupT} {r : Int} {f : ReplicaT → ReplicaT} (hok : okL ReplicaT.ok g.Reps) (hf : ∀ x, x.ok → (f x).ok) : okL ReplicaT.ok (setRep g r f) := by
  refine ⟨by rw [setRep_len]; exact hok.1, fun y hy => ?_⟩
  rcases setRep_mem hy with h | ⟨x, hx, rfl⟩
  · exact hok.2 y h
  · exact hf x (hok.2 x hx)
theorem sum_le_mul {α : Type} {w : α → Nat} {B : Nat} : ∀ {xs : List α}, (∀ x ∈ xs, w x ≤ B) → (xs.map w).sum ≤ xs.length * B
  | [], _ => by simp
  | x :: xs, h => by
    have h1 := sum_le_mul (xs := xs) (fun y hy => h y (List.mem_cons_of_mem _ hy))
    have h2 := h x (List.mem_cons_self ..)
    simp only [List.map_cons, List.sum_cons, List.length_cons, Nat.succ_mul]
    omega
theorem wL_bound {α : Type} {w : α → Nat} {B : Nat} {xs : List α} (hB : ∀ x ∈ xs, w x ≤ B) (hl : xs.length ≤ 5) : wL w xs ≤ 5 + 5 * B := by
  have h1 := sum_le_mul hB
  have h2 : xs.length * B ≤ 5 * B := Nat.mul_le_mul_right B hl
  unfold wL
  omega
theorem okG_len {g : GroupT} (h : okGroup g = true) : g.Reps.length ≤ 5 := by
  simp only [okGroup, okMany, Bool.and_eq_true, Bool.or_eq_true, decide_eq_true_eq] at h
  omega
theorem okUp_g {g : GroupT} {r : Int} {b : Bool} (h : okUp g r b = true) : okGroup g = true := by
  unfold okUp at h
  simp only [Bool.and_eq_true] at h
  exact h.1
theorem zeroG_w : zeroG.w ≤ 5242885 := by decide
theorem setRep_w {g : GroupT} {r : Int} {f : ReplicaT → ReplicaT} (h5 : g.Reps.length ≤ 5) (hw : g.w ≤ 1048576) (hf : ∀ x, x.w ≤ 1048576 → (f x).w ≤ 1048576) : wL ReplicaT.w (setRep g r f) ≤ 5242885 := by
  have := wL_bound (w := ReplicaT.w) (B := 1048576) (xs := setRep g r f) (fun y hy => by
    rcases setRep_mem hy with h | ⟨x, hx, rfl⟩
    · exact rep_w hw h
    · exact hf x (rep_w hw hx)) (by rw [setRep_len]; exact h5)
  omega
theorem law_CrashRep (a W : GroupT) (r : Int) (b : Bool) (hok : a.ok) (hW : W.ok) (hww : W.w ≤ 5242885)
    (hS : a.w ≤ 1048576 → PC Try.prog true 54 [.agg a.cells, .int .i64 r] (.tup [.agg W.cells, .bool b]) [])
    (hI : a.w ≤ 1048576 → PC Try.prog false 56 [.agg a.cells, .int .i64 r] (.tup [.agg [.own 0, .int .i64 W.Term, .int .i64 W.Lead], .bool b]) [⟨.deep ReplicaT.shp, 150, 3, W.Reps.map ReplicaT.cells⟩]) :
    PC Try.prog false 9 [.agg a.cells, .int .i64 r] (.bool true) [] := by
  have hm1 := GroupT.cntS_w a 1
  have hm2 := GroupT.cntS_w W 1
  refine pc_at Try.func9 rfl (by kernel_rfl) 101 [.tmp 4] rfl rfl ?_
  repeat' (conv => whnf); first
    | refine nameB_self (b := b) ?_
    | refine nameB_no (b := !(b == b)) (by simp) ?_
    | refine nameB_dno (by omega) ?_
    | refine nameB_true ?_
    | refine nameB_false ?_
    | refine nameB_yes (by assumption) ?_
    | refine nameB_no (by assumption) ?_
    | refine nameB_dyes (by assumption) ?_
    | refine nameB_dno (by assumption) ?_
    | (refine nameB_dec (fun h => ?_) (fun h => ?_) <;> try simp only [List.length_map, List.length_take, List.length_append, List.length_drop, List.length_set, markList_length, midL_len, mkL_length, Int.toNat_natCast, fact_byte] at h)
    | (refine nameB_cases (fun h => ?_) (fun h => ?_) <;> try simp only [bne_iff_ne, ne_eq, bne_eq_false_iff_eq, beq_iff_eq, beq_eq_false_iff_ne, Bool.not_eq_true', Bool.not_eq_false', Bool.or_eq_true, Bool.or_eq_false_iff, List.length_map, List.length_take, List.length_append, List.length_drop, List.length_set, markList_length, midL_len, mkL_length, Int.toNat_natCast, fact_byte] at h)
    | refine splitB_true ?_
    | refine splitB_false ?_
    | (refine splitB_intro (fun h => ?_) (fun h => ?_) <;> subst h)
    | refine draw_text (by kernel_rfl) (by kernel_rfl) (by kernel_rfl) ?_
    | refine both_intro ?_ ?_
    | exact True.intro
    | (show Go.Ab.CallA _ _ _ _ _ _ _; first
        | (by_cases hn : (1048576 : Int) - ((GroupT.w a : Nat) : Int) < 0 <;> first | refine Call0 (pc_szneg (c_laws_szGroup a (1048576 : Int) (by omega) (by omega) hok) hn) rfl rfl ?_ | refine Call0 (pc_szpos (c_laws_szGroup a (1048576 : Int) (by omega) (by omega) hok) hn) rfl rfl ?_)
        | refine CallT (hS (by omega)) rfl rfl rfl rfl (Nat.le_of_ble_eq_true rfl) ?_
        | refine CallT (nid := 20496) (c_laws_toGroup_ro a (by omega)) rfl rfl rfl rfl (Nat.le_of_ble_eq_true rfl) ?_
        | refine CallF (hI (by omega)) rfl rfl rfl (Nat.le_of_ble_eq_true rfl) ?_
        | refine CallF (c_laws_toGroup a (by omega)) rfl rfl rfl (Nat.le_of_ble_eq_true rfl) ?_
        | refine Call0 (pc_true (c_laws_eqGroup W W hW) rfl) rfl rfl ?_
        | refine Call0 (pc_true (c_laws_eqGroup a a hok) rfl) rfl rfl ?_
        | refine CallMs (m_laws_markGroup a 1 (by omega) (by omega)) [] trivial rfl rfl ?_
        | refine CallM1 (m_laws_markGroup a 1 (by omega) (by omega)) [] trivial rfl rfl ?_
        | refine CallMs (m_laws_markGroup W 1 (by omega) (by omega)) [] trivial rfl rfl ?_
        | refine CallM1 (m_laws_markGroup W 1 (by omega) (by omega)) [] trivial rfl rfl ?_
        | refine Call0 (c_laws_heldGroup W 1 (by omega) (by omega)) rfl rfl ?_)
    | (show Go.Ab.CallD _ _ _ _ _ _ _; first
        | (by_cases hn : (1048576 : Int) - ((GroupT.w a : Nat) : Int) < 0 <;> first | refine CallD0 (pc_szneg (c_laws_szGroup a (1048576 : Int) (by omega) (by omega) hok) hn) rfl rfl rfl ?_ | refine CallD0 (pc_szpos (c_laws_szGroup a (1048576 : Int) (by omega) (by omega) hok) hn) rfl rfl rfl ?_)
        | refine CallDT (hS (by omega)) rfl rfl rfl ⟨rfl, rfl⟩ ?_
        | refine CallDT (nid := 20496) (c_laws_toGroup_ro a (by omega)) rfl rfl rfl ⟨rfl, rfl⟩ ?_
        | refine CallDF (hI (by omega)) rfl rfl ⟨rfl, rfl⟩ ?_
        | refine CallDF (c_laws_toGroup a (by omega)) rfl rfl ⟨rfl, rfl⟩ ?_
        | refine CallD0 (pc_true (c_laws_eqGroup W W hW) rfl) rfl rfl rfl ?_
        | refine CallD0 (pc_true (c_laws_eqGroup a a hok) rfl) rfl rfl rfl ?_
        | refine CallD0 (c_laws_heldGroup W 1 (by omega) (by omega)) rfl rfl rfl ?_)
    | refine ix_map_at hx ?_
    | refine ix_map_at hy ?_
    | refine sl_pre (by omega) (fun _ => rfl) ?_
    | refine sl_suf (by omega) (fun _ => rfl) ?_
    | (refine ix_map2 hx (by omega) (by (try simp only [List.length_take]); omega) (fun y hy => ?_); try simp only [Int.toNat_natCast] at hy)
    | (refine ix_map (by omega) (by (try simp only [List.length_take]); omega) (fun x hx => ?_); try simp only [Int.toNat_natCast] at hx)
    | refine side_and (side_of (by first | (and_intros <;> first | exact Nat.le_of_ble_eq_true rfl | rfl | omega | (simp only [List.length_map, List.length_append, List.length_replicate, List.length_take, List.length_cons, List.length_nil, List.length_drop, List.length_set, markList_length, midL_len, mkL_length]; omega) | exact bytes_ok (Nat.le_of_ble_eq_true rfl) (by omega) (by simp only [List.length_map, List.length_append, List.length_replicate, List.length_take, List.length_cons, List.length_nil, List.length_drop, List.length_set, markList_length, midL_len, mkL_length]; omega) | exact bytes_okN (Nat.le_of_ble_eq_true rfl) (by simp only [List.length_map, List.length_append, List.length_replicate, List.length_take, List.length_cons, List.length_nil, List.length_drop, List.length_set, markList_length, midL_len, mkL_length]; omega)) | fail)) ?_
    | refine nilB_intro (fun h => ?_) ?_
    | refine side_and (side_of (show Go.Ab.structOk _ _ = true by kernel_rfl)) ?_
    | refine side_and (side_of (map_len (fun _ => rfl))) ?_
    | refine side_and (side_of (map_one (fun _ => rfl) _)) ?_
    | refine side_and ?_ ?_
    | refine LoadK_of rfl rfl ?_
    | refine LoadD_cel rfl rfl rfl rfl ?_
    | refine LoadD_of rfl ?_
    | refine StoreD_of rfl rfl rfl ?_
    | refine AppD_of rfl (by and_intros <;> first | rfl | decide) (by simp only [List.length_map, List.length_append, List.length_take, List.length_cons, List.length_nil]; first | (refine ⟨by omega, ?_⟩; refine Nat.le_trans (Nat.mul_le_mul_left _ (show _ ≤ 512 by decide)) ?_; omega) | fail) ?_
    | refine AppN_of rfl rfl (by and_intros <;> rfl) (by simp only [List.length_map, List.length_append, List.length_take, List.length_cons, List.length_nil]; first | (refine ⟨by omega, ?_⟩; refine Nat.le_trans (Nat.mul_le_mul_left _ (show _ ≤ 512 by decide)) ?_; omega) | fail) ?_
    | (show False; omega)
  all_goals
    conv => whnf
    refine OutA_plain rfl rfl ?_
    first | rfl | (exfalso; omega) | (exfalso; simp at * <;> omega)
theorem crashR_ok {g : GroupT} {r : Int} (hok : g.ok) : (crashR g r).ok := by
  cases h : okUp g r true with
  | true => rw [crashR, resG_yes h]; exact ⟨setRep_ok hok.1 fun x hx => ⟨trivial, hx.2.1, hx.2.2⟩, hok.2.1, trivial⟩
  | false => rw [crashR, resG_no h]; exact zeroG_ok
theorem crashR_w {g : GroupT} {r : Int} (hw : g.w ≤ 1048576) : (crashR g r).w ≤ 5242885 := by
  cases h : okUp g r true with
  | true => rw [crashR, resG_yes h]; exact setRep_w (okG_len (okUp_g h)) hw fun x hx => hx
  | false => rw [crashR, resG_no h]; exact zeroG_w
theorem c_laws_FnExactCrashRep (a : GroupT) (r : Int) (hok : a.ok) : PC Try.prog false 9 [.agg a.cells, .int .i64 r] (.bool true) [] := by
  by_cases hw : a.w ≤ 1048576
  · exact law_CrashRep a (crashR a r) r (okUp a r true) hok (crashR_ok hok) (crashR_w hw) (c_spec_CrashRep a r hok) (c_impl_CrashRep a r hok)
  · exact law_CrashRep a zeroG r false hok zeroG_ok zeroG_w (fun h => absurd h hw) (fun h => absurd h hw)
end Go.Proofs.Ytfbclbdjpolpnaa
