/-
  What the functions that list who holds a lease give.
  No condition.
-/
import Derived.Test.YtgeoghlgpnedfaaWatch3
namespace Go.Proofs.Ytgeoghlgpnedfaa
open Go.Ab
set_option linter.unusedSimpArgs false
set_option maxRecDepth 20000
set_option maxHeartbeats 2000000
set_option linter.unusedVariables false

theorem one_len {L : List (List AV)} {e : List AV} {n : Nat} (hL : L = [e]) (he : e.length = n) : ∀ z ∈ L, z.length = n := by
  subst hL
  intro z hz
  simp at hz
  rw [hz]
  exact he
theorem app_bound {L M : List (List AV)} {b : Nat} (hM : M.length = 1) (hL : L.length ≤ 1048576) (hb : b ≤ 64) : L.length + M.length ≤ 70368744177664 ∧ (L.length + M.length) * b ≤ 140737488355328 := by
  rw [hM]
  refine ⟨by omega, ?_⟩
  have : (L.length + 1) * b ≤ (L.length + 1) * 64 := Nat.mul_le_mul_left _ hb
  omega
def whoList (w : WatchT) (n : Nat) : List Int := ((List.range n).filter fun i : Nat => holds w (i : Int)).map fun i : Nat => (i : Int)
theorem whoList_snoc {w : WatchT} {n : Nat} : whoList w (n + 1) = if holds w (n : Int) = true then whoList w n ++ [(n : Int)] else whoList w n := by
  unfold whoList
  rw [List.range_succ, List.filter_append, List.map_append]
  by_cases h : holds w (n : Int) = true
  · rw [if_pos h]; simp [h]
  · rw [if_neg h]; simp [h]
theorem whoList_len {w : WatchT} {n : Nat} : (whoList w n).length ≤ n := by
  unfold whoList
  rw [List.length_map]
  exact Nat.le_trans (List.length_filter_le _ _) (by simp)
theorem who_yes {w : WatchT} {n : Nat} (h : holds w (n : Int) = true) : whoList w (n + 1) = whoList w n ++ [(n : Int)] := by rw [whoList_snoc, if_pos h]
theorem who_no {w : WatchT} {n : Nat} (h : holds w (n : Int) = false) : whoList w (n + 1) = whoList w n := by rw [whoList_snoc, if_neg (by rw [h]; simp)]
def holders (w : WatchT) : List Int := if okWatch w = true then whoList w w.Clocks.length else []
theorem holders_yes {w : WatchT} {k : Nat} (h : okWatch w = true) (hk : k ≤ w.Clocks.length) (hk' : ¬ (k : Int) < w.Clocks.length) : holders w = whoList w k := by
  unfold holders
  rw [if_pos h, show w.Clocks.length = k by omega]
theorem holders_no {w : WatchT} (h : okWatch w = false) : holders w = [] := by
  unfold holders
  rw [if_neg (by rw [h]; simp)]
theorem zero_of {k : Nat} {b : Bool} (h : k = 0 ∨ b = true) (h' : b = false) : k = 0 := by
  rcases h with h | h
  · exact h
  · rw [h] at h'; cases h'
theorem c_impl_HoldersOf (w : WatchT) (hok : w.ok) (hl : w.w ≤ 1048576) : PC Try.prog false 20 [.agg w.cells] (.tup [.own 0, .bool (okWatch w)]) [⟨false, 3, 1, (holders w).map intC⟩] := by
  have hw2 : w.w = w.Clocks.length + w.Given.length := rfl
  refine pc_at Try.func20 rfl (by kernel_rfl) 25 [.tmp 2, .tmp 3] rfl rfl ?_
  repeat' (conv => whnf); first
    | refine side_and (side_of (one_len rfl rfl)) ?_
    | refine side_and (side_of (app_bound (L := (whoList w k).map intC) rfl (by rw [List.length_map]; have hwl := whoList_len (w := w) (n := k); omega) (Nat.le_of_ble_eq_true rfl))) ?_
    | refine side_and (side_of (by first | (and_intros <;> first | exact Nat.le_of_ble_eq_true rfl | rfl | (intro e; exact absurd (AV.own.inj e) (by decide))) | fail)) ?_
    | refine nameB_true ?_
    | refine nameB_false ?_
    | refine nameB_yes (by assumption) ?_
    | refine nameB_no (by assumption) ?_
    | refine nameB_dyes (by assumption) ?_
    | refine nameB_dno (by assumption) ?_
    | (refine nameB_dec (fun h => ?_) (fun h => ?_) <;> try simp only [List.length_map, List.length_take, List.length_append, List.length_drop, List.length_set, markList_length, midL_len, mkL_length, Int.toNat_natCast, fact_byte] at h)
    | (refine nameB_cases (fun h => ?_) (fun h => ?_) <;> try simp only [bne_iff_ne, ne_eq, bne_eq_false_iff_eq, beq_iff_eq, beq_eq_false_iff_ne, Bool.not_eq_true', Bool.not_eq_false', Bool.or_eq_true, Bool.or_eq_false_iff, List.length_map, List.length_take, List.length_append, List.length_drop, List.length_set, markList_length, midL_len, mkL_length, Int.toNat_natCast, fact_byte] at h)
    | refine splitB_true ?_
    | refine splitB_false ?_
    | (refine splitB_intro (fun h => ?_) (fun h => ?_) <;> subst h)
    | refine ⟨⟨by kernel_rfl, by kernel_rfl, by kernel_rfl⟩, ?_⟩
    | (show Go.Ab.Loop _ _ _; (refine Loop_nil 4 1 3 1 rfl rfl (by decide) ?_; refine Loop_at [1, 12] [0] (Nat) (fun k => k ≤ w.Clocks.length) (fun k => [(13, .int .i64 (k : Nat)), (4, .own 1)]) (fun k => [(1, ⟨false, 3, 1, (whoList w k).map intC⟩)]) (fun k => w.Clocks.length - k) 0 ⟨by first | (simp_all <;> fail) | rfl | fail, by first | rfl | (simp_all <;> fail) | fail, trivial⟩ ⟨by first | rfl | first | exact congrArg (fun e => some (AObj.mk false _ _ e)) (by rw [who_yes (by assumption), List.map_append]; rfl) | exact congrArg (fun e => some (AObj.mk false _ _ e)) (by rw [who_no (by assumption)]) | fail | fail, trivial⟩ (by (try dsimp only); first | (exact Nat.zero_le _) | fail) ?_; (conv => whnf); refine side_and (side_of (by first | exact fun k => rfl | exact fun k => by simp [headOk, closedE, closedO, closedL, AV.closed, hcap.closed])) ?_; rintro k hT; try dsimp only at hT))
    | (show Go.Ab.Again _ _ _ _ _ _ _ _ _ _ _; refine Again_of (k + 1) ⟨by first | rfl | exact i64_next (by omega) | (simp_all <;> fail) | fail, by first | rfl | (simp_all <;> fail) | fail, trivial⟩ ⟨by first | rfl | first | exact congrArg (fun e => some (AObj.mk false _ _ e)) (by rw [who_yes (by assumption), List.map_append]; rfl) | exact congrArg (fun e => some (AObj.mk false _ _ e)) (by rw [who_no (by assumption)]) | fail | fail, trivial⟩ (by first | (and_intros <;> first | rfl | trivial) | fail) (by first | (and_intros <;> first | rfl | trivial) | fail) rfl rfl rfl (by (try dsimp only); first | ((show k + 1 ≤ _; omega)) | fail) (show _ < _ by (try dsimp only); omega))
    | (show Go.Ab.CallA _ _ _ _ _ _ _; first
        | refine Call0 (c_impl_GoodWatch w hok) rfl rfl ?_
        | refine Call0 (c_impl_Watch_holds w (k : Int) hok (by assumption) (by omega)) rfl rfl ?_)
    | refine ix_map_at hx ?_
    | refine ix_map_at hy ?_
    | refine sl_pre (by omega) (fun _ => rfl) ?_
    | refine sl_suf (by omega) (fun _ => rfl) ?_
    | (refine ix_map2 hx (by omega) (by (try simp only [List.length_take]); omega) (fun y hy => ?_); try simp only [Int.toNat_natCast] at hy)
    | (refine ix_map (by omega) (by (try simp only [List.length_take]); omega) (fun x hx => ?_); try simp only [Int.toNat_natCast] at hx)
    | refine side_and (side_of (by first | (and_intros <;> first | exact Nat.le_of_ble_eq_true rfl | rfl | omega | (simp only [List.length_map, List.length_append, List.length_replicate, List.length_take, List.length_cons, List.length_nil, List.length_drop, List.length_set, markList_length, midL_len, mkL_length]; omega) | exact bytes_ok (Nat.le_of_ble_eq_true rfl) (by omega) (by simp only [List.length_map, List.length_append, List.length_replicate, List.length_take, List.length_cons, List.length_nil, List.length_drop, List.length_set, markList_length, midL_len, mkL_length]; omega) | exact bytes_okN (Nat.le_of_ble_eq_true rfl) (by simp only [List.length_map, List.length_append, List.length_replicate, List.length_take, List.length_cons, List.length_nil, List.length_drop, List.length_set, markList_length, midL_len, mkL_length]; omega)) | fail)) ?_
    | refine nilB_intro (fun h => ?_) ?_
    | refine side_and (side_of (show Go.Ab.structOk _ _ = true by kernel_rfl)) ?_
    | refine side_and (side_of (map_len (fun _ => rfl))) ?_
    | refine side_and (side_of (map_one (fun _ => rfl) _)) ?_
    | refine side_and ?_ ?_
    | refine LoadK_of rfl rfl ?_
    | refine LoadD_cel rfl rfl rfl rfl ?_
    | refine LoadD_of rfl ?_
    | refine StoreD_of rfl rfl rfl ?_
    | refine AppD_of rfl (by and_intros <;> first | rfl | decide) (by simp only [List.length_map, List.length_append, List.length_take, List.length_cons, List.length_nil]; first | (refine ⟨by omega, ?_⟩; refine Nat.le_trans (Nat.mul_le_mul_left _ (show _ ≤ 512 by decide)) ?_; omega) | fail) ?_
    | refine AppN_of rfl rfl (by and_intros <;> rfl) (by simp only [List.length_map, List.length_append, List.length_take, List.length_cons, List.length_nil]; first | (refine ⟨by omega, ?_⟩; refine Nat.le_trans (Nat.mul_le_mul_left _ (show _ ≤ 512 by decide)) ?_; omega) | fail) ?_
    | (show False; omega)
  all_goals
    conv => whnf
    first
    | (rw [show okWatch w = true by assumption]; exact OutA_ids rfl rfl rfl ⟨⟨_, _, _, rfl, congrArg (AObj.mk false _ _) (by rw [holders_yes (by assumption) hT (by assumption)])⟩, trivial⟩ rfl (.inr (flat_one (flat_map (fun _ => rfl) _))))
    | (rw [show okWatch w = false by assumption]; exact OutA_nil 2 1 3 1 rfl rfl (by decide) (OutA_ids rfl rfl rfl ⟨⟨_, _, _, rfl, congrArg (AObj.mk false _ _) (by rw [holders_no (by assumption)]; rfl)⟩, trivial⟩ rfl (.inr (flat_one (flat_map (fun _ => rfl) _)))))
theorem pc_tup {P : Program} {sh : Bool} {f : Nat} {args : List AV} {r : AV} {os os' : List AObj} (h : PC P sh f args r os) (e : os = os') : PC P sh f args r os' := by rwa [e] at h
theorem held_ints {L L' : List (List AV)} {k : AV} (h : L = L') : [AV.sl L, k] = [AV.sl L', k] := by rw [h]
theorem holders_len (a : WatchT) : (holders a).length ≤ a.Clocks.length := by
  unfold holders
  split
  · exact whoList_len
  · exact Nat.zero_le _
end Go.Proofs.Ytgeoghlgpnedfaa
