/-
  What the functions that list who holds a lease give.
  No condition.
-/
import Derived.Test.YtcdlapjpnenkdaaWatch3
namespace Go.Proofs.Ytcdlapjpnenkdaa
open Go.Ab
set_option linter.unusedSimpArgs false
set_option maxRecDepth 20000
set_option maxHeartbeats 2000000
set_option linter.unusedVariables false

theorem one_len {L : List (List AV)} {e : List AV} {n : Nat} (hL : L = [e]) (he : e.length = n) : ∀ z ∈ L, z.length = n := by
  subst hL
  intro z hz
  simp at hz
  rw [hz]
  exact he
theorem app_bound {L M : List (List AV)} {b : Nat} (hM : M.length = 1) (hL : L.length ≤ 1048576) (hb : b ≤ 64) : L.length + M.length ≤ 70368744177664 ∧ (L.length + M.length) * b ≤ 140737488355328 := by
  rw [hM]
  refine ⟨by omega, ?_⟩
  have : (L.length + 1) * b ≤ (L.length + 1) * 64 := Nat.mul_le_mul_left _ hb
  omega
def whoList (w : WatchT) (n : Nat) : List Int := ((List.range n).filter fun i : Nat => holds w (i : Int)).map fun i : Nat => (i : Int)
theorem whoList_snoc {w : WatchT} {n : Nat} : whoList w (n + 1) = if holds w (n : Int) = true then whoList w n ++ [(n : Int)] else whoList w n := by
  unfold whoList
  rw [List.range_succ, List.filter_append, List.map_append]
  by_cases h : holds w (n : Int) = true
  · rw [if_pos h]; simp [h]
  · rw [if_neg h]; simp [h]
theorem whoList_len {w : WatchT} {n : Nat} : (whoList w n).length ≤ n := by
  unfold whoList
  rw [List.length_map]
  exact Nat.le_trans (List.length_filter_le _ _) (by simp)
theorem who_yes {w : WatchT} {n : Nat} (h : holds w (n : Int) = true) : whoList w (n + 1) = whoList w n ++ [(n : Int)] := by rw [whoList_snoc, if_pos h]
theorem who_no {w : WatchT} {n : Nat} (h : holds w (n : Int) = false) : whoList w (n + 1) = whoList w n := by rw [whoList_snoc, if_neg (by rw [h]; simp)]
def holders (w : WatchT) : List Int := if okWatch w = true then whoList w w.Clocks.length else []
theorem holders_yes {w : WatchT} {k : Nat} (h : okWatch w = true) (hk : k ≤ w.Clocks.length) (hk' : ¬ (k : Int) < w.Clocks.length) : holders w = whoList w k := by
  unfold holders
  rw [if_pos h, show w.Clocks.length = k by omega]
theorem holders_no {w : WatchT} (h : okWatch w = false) : holders w = [] := by
  unfold holders
  rw [if_neg (by rw [h]; simp)]
theorem zero_of {k : Nat} {b : Bool} (h : k = 0 ∨ b = true) (h' : b = false) : k = 0 := by
  rcases h with h | h
  · exact h
  · rw [h] at h'; cases h'
theorem c_impl_HoldersOf (w : WatchT) (hok : w.ok) (hl : w.w ≤ 1048576) : PC Try.prog false 13 [.agg w.cells] (.tup [.own 0, .bool (okWatch w)]) [⟨false, 3, 1, (holders w).map intC⟩] := by
  have hw2 : w.w = w.Clocks.length + w.Given.length := rfl
  refine pc_at Try.func13 rfl (by kernel_rfl) 25 [.tmp 2, .tmp 3] rfl rfl ?_
  repeat' (conv => whnf); first
    | refine side_and (side_of (one_len rfl rfl)) ?_
    | refine side_and (side_of (app_bound (L := (whoList w k).map intC) rfl (by rw [List.length_map]; have hwl := whoList_len (w := w) (n := k); omega) (Nat.le_of_ble_eq_true rfl))) ?_
    | refine side_and (side_of (by first | (and_intros <;> first | exact Nat.le_of_ble_eq_true rfl | rfl | (intro e; exact absurd (AV.own.inj e) (by decide))) | fail)) ?_
    | refine nameB_true ?_
    | refine nameB_false ?_
    | refine nameB_yes (by assumption) ?_
    | refine nameB_no (by assumption) ?_
    | refine nameB_dyes (by assumption) ?_
    | refine nameB_dno (by assumption) ?_
    | (refine nameB_dec (fun h => ?_) (fun h => ?_) <;> try simp only [List.length_map, List.length_take, List.length_append, List.length_drop, markList_length, Int.toNat_natCast, fact_byte] at h)
    | (refine nameB_cases (fun h => ?_) (fun h => ?_) <;> try simp only [bne_iff_ne, ne_eq, bne_eq_false_iff_eq, beq_iff_eq, beq_eq_false_iff_ne, Bool.not_eq_true', Bool.not_eq_false', Bool.or_eq_true, Bool.or_eq_false_iff, List.length_map, List.length_take, List.length_append, List.length_drop, markList_length, Int.toNat_natCast, fact_byte] at h)
    | refine splitB_true ?_
    | refine splitB_false ?_
    | (refine splitB_intro (fun h => ?_) (fun h => ?_) <;> subst h)
    | refine ⟨⟨by kernel_rfl, by kernel_rfl, by kernel_rfl⟩, ?_⟩
    | (show Go.Ab.Loop _ _ _; (refine Loop_nil 4 1 3 1 rfl rfl (by decide) ?_; refine Loop_at [1, 12] [0] (Nat) (fun k => k ≤ w.Clocks.length) (fun k => [(13, .int .i64 (k : Nat)), (4, .own 1)]) (fun k => [(1, ⟨false, 3, 1, (whoList w k).map intC⟩)]) (fun k => w.Clocks.length - k) 0 ⟨by first | (simp_all <;> fail) | rfl | fail, by first | rfl | (simp_all <;> fail) | fail, trivial⟩ ⟨by first | rfl | first | exact congrArg (fun e => some (AObj.mk false _ _ e)) (by rw [who_yes (by assumption), List.map_append]; rfl) | exact congrArg (fun e => some (AObj.mk false _ _ e)) (by rw [who_no (by assumption)]) | fail | fail, trivial⟩ (by (try dsimp only); first | (exact Nat.zero_le _) | fail) ?_; (conv => whnf); refine side_and (side_of (by first | exact fun k => rfl | exact fun k => by simp [headOk, closedE, closedO, closedL, AV.closed, hcap.closed])) ?_; rintro k hT; try dsimp only at hT))
    | (show Go.Ab.Again _ _ _ _ _ _ _ _ _ _ _; refine Again_of (k + 1) ⟨by first | rfl | exact i64_next (by omega) | (simp_all <;> fail) | fail, by first | rfl | (simp_all <;> fail) | fail, trivial⟩ ⟨by first | rfl | first | exact congrArg (fun e => some (AObj.mk false _ _ e)) (by rw [who_yes (by assumption), List.map_append]; rfl) | exact congrArg (fun e => some (AObj.mk false _ _ e)) (by rw [who_no (by assumption)]) | fail | fail, trivial⟩ (by first | (and_intros <;> first | rfl | trivial) | fail) (by first | (and_intros <;> first | rfl | trivial) | fail) rfl rfl rfl (by (try dsimp only); first | ((show k + 1 ≤ _; omega)) | fail) (show _ < _ by (try dsimp only); omega))
    | (show Go.Ab.CallA _ _ _ _ _ _ _; first
        | refine Call0 (c_impl_GoodWatch w hok) rfl rfl ?_
        | refine Call0 (c_impl_Watch_holds w (k : Int) hok (by assumption) (by omega)) rfl rfl ?_)
    | refine ix_map_at hx ?_
    | refine ix_map_at hy ?_
    | refine sl_pre (by omega) (fun _ => rfl) ?_
    | refine sl_suf (by omega) (fun _ => rfl) ?_
    | (refine ix_map2 hx (by omega) (by (try simp only [List.length_take]); omega) (fun y hy => ?_); try simp only [Int.toNat_natCast] at hy)
    | (refine ix_map (by omega) (by (try simp only [List.length_take]); omega) (fun x hx => ?_); try simp only [Int.toNat_natCast] at hx)
    | refine side_and (side_of (by first | (and_intros <;> first | exact Nat.le_of_ble_eq_true rfl | rfl | omega | (simp only [List.length_map, List.length_append, List.length_replicate, List.length_take, List.length_cons, List.length_nil, List.length_drop, List.length_set, markList_length]; omega) | exact bytes_ok (Nat.le_of_ble_eq_true rfl) (by omega) (by simp only [List.length_map, List.length_append, List.length_replicate, List.length_take, List.length_cons, List.length_nil, List.length_drop, List.length_set, markList_length]; omega) | exact bytes_okN (Nat.le_of_ble_eq_true rfl) (by simp only [List.length_map, List.length_append, List.length_replicate, List.length_take, List.length_cons, List.length_nil, List.length_drop, List.length_set, markList_length]; omega)) | fail)) ?_
    | refine nilB_intro (fun h => ?_) ?_
    | refine side_and (side_of (map_len (fun _ => rfl))) ?_
    | refine side_and (side_of (map_one (fun _ => rfl) _)) ?_
    | refine side_and ?_ ?_
    | refine LoadK_of rfl rfl ?_
    | (show False; omega)
  all_goals
    conv => whnf
    first
    | (rw [show okWatch w = true by assumption]; exact OutA_ids rfl rfl rfl ⟨⟨_, _, _, rfl, congrArg (AObj.mk false _ _) (by rw [holders_yes (by assumption) hT (by assumption)])⟩, trivial⟩ rfl (.inr (flat_one (flat_map (fun _ => rfl) _))))
    | (rw [show okWatch w = false by assumption]; exact OutA_nil 2 1 3 1 rfl rfl (by decide) (OutA_ids rfl rfl rfl ⟨⟨_, _, _, rfl, congrArg (AObj.mk false _ _) (by rw [holders_no (by assumption)]; rfl)⟩, trivial⟩ rfl (.inr (flat_one (flat_map (fun _ => rfl) _)))))
theorem c_spec_HoldersOf (w : WatchT) (hok : w.ok) (hl : w.w ≤ 1048576) : PC Try.prog false 11 [.agg w.cells] (.tup [.own 0, .bool (okWatch w)]) [⟨false, 3, 1, (holders w).map intC⟩] := by
  have hw2 : w.w = w.Clocks.length + w.Given.length := rfl
  refine pc_at Try.func11 rfl (by kernel_rfl) 28 [.tmp 2, .tmp 3] rfl rfl ?_
  repeat' (conv => whnf); first
    | refine side_and (side_of (one_len rfl rfl)) ?_
    | refine side_and (side_of (app_bound (L := (whoList w k).map intC) rfl (by rw [List.length_map]; have hwl := whoList_len (w := w) (n := k); omega) (Nat.le_of_ble_eq_true rfl))) ?_
    | refine side_and (side_of (by first | (and_intros <;> first | exact Nat.le_of_ble_eq_true rfl | rfl | (intro e; exact absurd (AV.own.inj e) (by decide))) | fail)) ?_
    | refine nameB_true ?_
    | refine nameB_false ?_
    | refine nameB_yes (by assumption) ?_
    | refine nameB_no (by assumption) ?_
    | refine nameB_dyes (by assumption) ?_
    | refine nameB_dno (by assumption) ?_
    | (refine nameB_dec (fun h => ?_) (fun h => ?_) <;> try simp only [List.length_map, List.length_take, List.length_append, List.length_drop, markList_length, Int.toNat_natCast, fact_byte] at h)
    | (refine nameB_cases (fun h => ?_) (fun h => ?_) <;> try simp only [bne_iff_ne, ne_eq, bne_eq_false_iff_eq, beq_iff_eq, beq_eq_false_iff_ne, Bool.not_eq_true', Bool.not_eq_false', Bool.or_eq_true, Bool.or_eq_false_iff, List.length_map, List.length_take, List.length_append, List.length_drop, markList_length, Int.toNat_natCast, fact_byte] at h)
    | refine splitB_true ?_
    | refine splitB_false ?_
    | (refine splitB_intro (fun h => ?_) (fun h => ?_) <;> subst h)
    | refine ⟨⟨by kernel_rfl, by kernel_rfl, by kernel_rfl⟩, ?_⟩
    | (show Go.Ab.Loop _ _ _; (refine Loop_nil 4 1 3 1 rfl rfl (by decide) ?_; refine Loop_at [1] [0] (Nat) (fun k => k ≤ w.Clocks.length ∧ (k = 0 ∨ okWatch w = true)) (fun k => [(5, .int .i64 (k : Nat)), (4, .own 1)]) (fun k => [(1, ⟨false, 3, 1, (whoList w k).map intC⟩)]) (fun k => w.Clocks.length - k) 0 ⟨by first | (simp_all <;> fail) | rfl | fail, by first | rfl | (simp_all <;> fail) | fail, trivial⟩ ⟨by first | rfl | first | exact congrArg (fun e => some (AObj.mk false _ _ e)) (by rw [who_yes (by assumption), List.map_append]; rfl) | exact congrArg (fun e => some (AObj.mk false _ _ e)) (by rw [who_no (by assumption)]) | fail | fail, trivial⟩ (by (try dsimp only); first | (exact ⟨Nat.zero_le _, .inl rfl⟩) | fail) ?_; (conv => whnf); refine side_and (side_of (by first | exact fun k => rfl | exact fun k => by simp [headOk, closedE, closedO, closedL, AV.closed, hcap.closed])) ?_; rintro k hT; try dsimp only at hT))
    | (show Go.Ab.Again _ _ _ _ _ _ _ _ _ _ _; refine Again_of (k + 1) ⟨by first | rfl | exact i64_next (by omega) | (simp_all <;> fail) | fail, by first | rfl | (simp_all <;> fail) | fail, trivial⟩ ⟨by first | rfl | first | exact congrArg (fun e => some (AObj.mk false _ _ e)) (by rw [who_yes (by assumption), List.map_append]; rfl) | exact congrArg (fun e => some (AObj.mk false _ _ e)) (by rw [who_no (by assumption)]) | fail | fail, trivial⟩ (by first | (and_intros <;> first | rfl | trivial) | fail) (by first | (and_intros <;> first | rfl | trivial) | fail) rfl rfl rfl (by (try dsimp only); first | (exact ⟨by omega, .inr (by assumption)⟩) | fail) (show _ < _ by (try dsimp only); omega))
    | (show Go.Ab.CallA _ _ _ _ _ _ _; first
        | refine Call0 (c_spec_l10Good w hok) rfl rfl ?_
        | refine Call0 (c_spec_l10Holds w (k : Int) hok (by assumption) (by omega)) rfl rfl ?_)
    | refine ix_map_at hx ?_
    | refine ix_map_at hy ?_
    | refine sl_pre (by omega) (fun _ => rfl) ?_
    | refine sl_suf (by omega) (fun _ => rfl) ?_
    | (refine ix_map2 hx (by omega) (by (try simp only [List.length_take]); omega) (fun y hy => ?_); try simp only [Int.toNat_natCast] at hy)
    | (refine ix_map (by omega) (by (try simp only [List.length_take]); omega) (fun x hx => ?_); try simp only [Int.toNat_natCast] at hx)
    | refine side_and (side_of (by first | (and_intros <;> first | exact Nat.le_of_ble_eq_true rfl | rfl | omega | (simp only [List.length_map, List.length_append, List.length_replicate, List.length_take, List.length_cons, List.length_nil, List.length_drop, List.length_set, markList_length]; omega) | exact bytes_ok (Nat.le_of_ble_eq_true rfl) (by omega) (by simp only [List.length_map, List.length_append, List.length_replicate, List.length_take, List.length_cons, List.length_nil, List.length_drop, List.length_set, markList_length]; omega) | exact bytes_okN (Nat.le_of_ble_eq_true rfl) (by simp only [List.length_map, List.length_append, List.length_replicate, List.length_take, List.length_cons, List.length_nil, List.length_drop, List.length_set, markList_length]; omega)) | fail)) ?_
    | refine nilB_intro (fun h => ?_) ?_
    | refine side_and (side_of (map_len (fun _ => rfl))) ?_
    | refine side_and (side_of (map_one (fun _ => rfl) _)) ?_
    | refine side_and ?_ ?_
    | refine LoadK_of rfl rfl ?_
    | (show False; omega)
  all_goals
    conv => whnf
    first
    | (rw [show okWatch w = true by assumption]; exact OutA_ids rfl rfl rfl ⟨⟨_, _, _, rfl, congrArg (AObj.mk false _ _) (by rw [holders_yes (by assumption) hT.1 (by assumption)])⟩, trivial⟩ rfl (.inr (flat_one (flat_map (fun _ => rfl) _))))
    | (obtain rfl : k = 0 := zero_of hT.2 (by assumption); rw [show okWatch w = false by assumption]; exact OutA_ids rfl rfl rfl ⟨⟨_, _, _, rfl, congrArg (AObj.mk false _ _) (by rw [holders_no (by assumption)]; rfl)⟩, trivial⟩ rfl (.inr (flat_one (flat_map (fun _ => rfl) _))))
theorem pc_tup {P : Program} {sh : Bool} {f : Nat} {args : List AV} {r : AV} {os os' : List AObj} (h : PC P sh f args r os) (e : os = os') : PC P sh f args r os' := by rwa [e] at h
theorem held_ints {L L' : List (List AV)} {k : AV} (h : L = L') : [AV.sl L, k] = [AV.sl L', k] := by rw [h]
theorem law_HoldersOf (a : WatchT) (R : List Int) (b : Bool) (hok : a.ok) (hR : R.length ≤ 1048576)
    (hS : a.w ≤ 1048576 → PC Try.prog false 11 [.agg a.cells] (.tup [.own 0, .bool b]) [⟨false, 3, 1, R.map intC⟩])
    (hI : a.w ≤ 1048576 → PC Try.prog false 13 [.agg a.cells] (.tup [.own 0, .bool b]) [⟨false, 3, 1, R.map intC⟩]) :
    PC Try.prog false 3 [.agg a.cells] (.bool true) [] := by
  have hw2 : a.w = a.Clocks.length + a.Given.length := rfl
  have hRo : okL okT R := ⟨by omega, fun _ _ => trivial⟩
  refine pc_at Try.func3 rfl (by kernel_rfl) 96 [.tmp 2] rfl rfl ?_
  repeat' (conv => whnf); first
    | refine nameB_self (b := b) ?_
    | refine nameB_no (b := !(b == b)) (by simp) ?_
    | refine nameB_dno (by omega) ?_
    | refine nameB_true ?_
    | refine nameB_false ?_
    | refine nameB_yes (by assumption) ?_
    | refine nameB_no (by assumption) ?_
    | refine nameB_dyes (by assumption) ?_
    | refine nameB_dno (by assumption) ?_
    | (refine nameB_dec (fun h => ?_) (fun h => ?_) <;> try simp only [List.length_map, List.length_take, List.length_append, List.length_drop, markList_length, Int.toNat_natCast, fact_byte] at h)
    | (refine nameB_cases (fun h => ?_) (fun h => ?_) <;> try simp only [bne_iff_ne, ne_eq, bne_eq_false_iff_eq, beq_iff_eq, beq_eq_false_iff_ne, Bool.not_eq_true', Bool.not_eq_false', Bool.or_eq_true, Bool.or_eq_false_iff, List.length_map, List.length_take, List.length_append, List.length_drop, markList_length, Int.toNat_natCast, fact_byte] at h)
    | refine splitB_true ?_
    | refine splitB_false ?_
    | (refine splitB_intro (fun h => ?_) (fun h => ?_) <;> subst h)
    | refine ⟨⟨by kernel_rfl, by kernel_rfl, by kernel_rfl⟩, ?_⟩
    | (show Go.Ab.Loop _ _ _; first
        | (refine Loop_at [0] [0, 8224, 8225, 8226, 20496, 20497, 20498, 20512, 20513, 20514, 24593, 24594, 24608, 28688, 28689, 28690, 32800, 32801, 32802, 40992, 40993, 40994, 41008, 41009, 41010, 53280, 53281, 53282, 57424, 57425, 57426, 69664, 69665, 69666, 77856, 77857, 77858, 98320, 98321, 98322, 98336, 98337, 98338, 102432, 102433, 102434, 114720, 114721, 114722, 1000000] (Nat) (fun i => i ≤ (a.Clocks).length) (fun i => [(5, .int .i64 (i : Nat)), (1, .int .i64 (1 + 1 * (i : Nat)))]) (fun i => [(24592, ⟨false, 49, 1, (markList 1 ClockT.mark (1) i).map ClockT.cells ++ ((a.Clocks).drop i).map ClockT.cells⟩)]) (fun i => (a.Clocks).length - i) 0 ⟨by first | first | exact congrArg (AV.int IntKind.i64) (by omega) | exact congrArg (AV.int IntKind.i64) ((inc_eq rfl (by omega) (by omega)).trans (by omega)) | rfl | fail, by first | first | exact congrArg (AV.int IntKind.i64) (by omega) | exact congrArg (AV.int IntKind.i64) ((inc_eq rfl (by omega) (by omega)).trans (by omega)) | rfl | fail, trivial⟩ ⟨by first | rfl | exact congrArg (fun e => some (AObj.mk false _ _ e)) (by (try simp only [List.set_set]); exact mark_set hx rfl) | fail | fail, trivial⟩ (by (try dsimp only); first | (exact Nat.zero_le _) | fail) ?_; (conv => whnf); refine side_and (side_of (by first | exact fun i => rfl | exact fun i => by simp [headOk, closedE, closedO, closedL, AV.closed, hcap.closed])) ?_; rintro i hM; try dsimp only at hM)
        | (refine Loop_at [0] [0, 8224, 8225, 8226, 20496, 20497, 20498, 20512, 20513, 20514, 24592, 24594, 24608, 28688, 28689, 28690, 32800, 32801, 32802, 40992, 40993, 40994, 41008, 41009, 41010, 53280, 53281, 53282, 57424, 57425, 57426, 69664, 69665, 69666, 77856, 77857, 77858, 98320, 98321, 98322, 98336, 98337, 98338, 102432, 102433, 102434, 114720, 114721, 114722, 1000000] (Nat) (fun i => i ≤ (a.Given).length) (fun i => [(5, .int .i64 (i : Nat)), (1, .int .i64 (1 + 1 * (a.Clocks.length : Int) + 3 * (i : Nat)))]) (fun i => [(24593, ⟨false, 85, 3, (markList 3 LeaseT.mark (1 + 1 * (a.Clocks.length : Int)) i).map LeaseT.cells ++ ((a.Given).drop i).map LeaseT.cells⟩)]) (fun i => (a.Given).length - i) 0 ⟨by first | first | exact congrArg (AV.int IntKind.i64) (by omega) | exact congrArg (AV.int IntKind.i64) ((inc_eq (inc_eq (inc_eq rfl (by omega) (by omega)) (by omega) (by omega)) (by omega) (by omega)).trans (by omega)) | rfl | fail, by first | first | exact congrArg (AV.int IntKind.i64) (by omega) | exact congrArg (AV.int IntKind.i64) ((inc_eq (inc_eq (inc_eq rfl (by omega) (by omega)) (by omega) (by omega)) (by omega) (by omega)).trans (by omega)) | rfl | fail, trivial⟩ ⟨by first | rfl | exact congrArg (fun e => some (AObj.mk false _ _ e)) (by (try simp only [List.set_set]); exact mark_set hx rfl) | fail | fail, trivial⟩ (by (try dsimp only); first | (exact Nat.zero_le _) | fail) ?_; (conv => whnf); refine side_and (side_of (by first | exact fun i => rfl | exact fun i => by simp [headOk, closedE, closedO, closedL, AV.closed, hcap.closed])) ?_; rintro i hM; try dsimp only at hM)
        | (refine Loop_at [0] [0, 8224, 8225, 8226, 20496, 20497, 20498, 20512, 20513, 20514, 24592, 24593, 24594, 24608, 28689, 28690, 32800, 32801, 32802, 40992, 40993, 40994, 41008, 41009, 41010, 53280, 53281, 53282, 57424, 57425, 57426, 69664, 69665, 69666, 77856, 77857, 77858, 98320, 98321, 98322, 98336, 98337, 98338, 102432, 102433, 102434, 114720, 114721, 114722, 1000000] (Nat) (fun i => i ≤ (R).length) (fun i => [(5, .int .i64 (i : Nat)), (1, .int .i64 (1 + 1 * (i : Nat)))]) (fun i => [(28688, ⟨false, 3, 1, (markList 1 (fun k => k) (1) i).map intC ++ ((R).drop i).map intC⟩)]) (fun i => (R).length - i) 0 ⟨by first | first | exact congrArg (AV.int IntKind.i64) (by omega) | exact congrArg (AV.int IntKind.i64) ((inc_eq rfl (by omega) (by omega)).trans (by omega)) | rfl | fail, by first | first | exact congrArg (AV.int IntKind.i64) (by omega) | exact congrArg (AV.int IntKind.i64) ((inc_eq rfl (by omega) (by omega)).trans (by omega)) | rfl | fail, trivial⟩ ⟨by first | rfl | exact congrArg (fun e => some (AObj.mk false _ _ e)) (by (try simp only [List.set_set]); exact mark_set hx rfl) | fail | fail, trivial⟩ (by (try dsimp only); first | (exact Nat.zero_le _) | fail) ?_; (conv => whnf); refine side_and (side_of (by first | exact fun i => rfl | exact fun i => by simp [headOk, closedE, closedO, closedL, AV.closed, hcap.closed])) ?_; rintro i hM; try dsimp only at hM))
    | (show Go.Ab.Again _ _ _ _ _ _ _ _ _ _ _; first
        | refine Again_of (i + 1) ⟨by first | rfl | exact i64_next (by omega) | first | exact congrArg (AV.int IntKind.i64) (by omega) | exact congrArg (AV.int IntKind.i64) ((inc_eq rfl (by omega) (by omega)).trans (by omega)) | fail, by first | first | exact congrArg (AV.int IntKind.i64) (by omega) | exact congrArg (AV.int IntKind.i64) ((inc_eq rfl (by omega) (by omega)).trans (by omega)) | rfl | fail, trivial⟩ ⟨by first | rfl | exact congrArg (fun e => some (AObj.mk false _ _ e)) (by (try simp only [List.set_set]); exact mark_set hx rfl) | fail | fail, trivial⟩ (by first | (and_intros <;> first | rfl | trivial) | fail) (by first | (and_intros <;> first | rfl | trivial) | fail) rfl rfl rfl (by (try dsimp only); first | ((show i + 1 ≤ _; omega)) | fail) (show _ < _ by (try dsimp only); omega)
        | refine Again_of (i + 1) ⟨by first | rfl | exact i64_next (by omega) | first | exact congrArg (AV.int IntKind.i64) (by omega) | exact congrArg (AV.int IntKind.i64) ((inc_eq (inc_eq (inc_eq rfl (by omega) (by omega)) (by omega) (by omega)) (by omega) (by omega)).trans (by omega)) | fail, by first | first | exact congrArg (AV.int IntKind.i64) (by omega) | exact congrArg (AV.int IntKind.i64) ((inc_eq (inc_eq (inc_eq rfl (by omega) (by omega)) (by omega) (by omega)) (by omega) (by omega)).trans (by omega)) | rfl | fail, trivial⟩ ⟨by first | rfl | exact congrArg (fun e => some (AObj.mk false _ _ e)) (by (try simp only [List.set_set]); exact mark_set hx rfl) | fail | fail, trivial⟩ (by first | (and_intros <;> first | rfl | trivial) | fail) (by first | (and_intros <;> first | rfl | trivial) | fail) rfl rfl rfl (by (try dsimp only); first | ((show i + 1 ≤ _; omega)) | fail) (show _ < _ by (try dsimp only); omega)
        | refine Again_of (i + 1) ⟨by first | rfl | exact i64_next (by omega) | first | exact congrArg (AV.int IntKind.i64) (by omega) | exact congrArg (AV.int IntKind.i64) ((inc_eq rfl (by omega) (by omega)).trans (by omega)) | fail, by first | first | exact congrArg (AV.int IntKind.i64) (by omega) | exact congrArg (AV.int IntKind.i64) ((inc_eq rfl (by omega) (by omega)).trans (by omega)) | rfl | fail, trivial⟩ ⟨by first | rfl | exact congrArg (fun e => some (AObj.mk false _ _ e)) (by (try simp only [List.set_set]); exact mark_set hx rfl) | fail | fail, trivial⟩ (by first | (and_intros <;> first | rfl | trivial) | fail) (by first | (and_intros <;> first | rfl | trivial) | fail) rfl rfl rfl (by (try dsimp only); first | ((show i + 1 ≤ _; omega)) | fail) (show _ < _ by (try dsimp only); omega))
    | (show Go.Ab.CallA _ _ _ _ _ _ _; first
        | (by_cases hn : (1048576 : Int) - ((WatchT.w a : Nat) : Int) < 0 <;> first | refine Call0 (pc_szneg (c_laws_szWatch a (1048576 : Int) (by omega) (by omega) hok) hn) rfl rfl ?_ | refine Call0 (pc_szpos (c_laws_szWatch a (1048576 : Int) (by omega) (by omega) hok) hn) rfl rfl ?_)
        | refine CallF (hS (by omega)) rfl rfl rfl (Nat.le_of_ble_eq_true rfl) ?_
        | refine CallF (hI (by omega)) rfl rfl rfl (Nat.le_of_ble_eq_true rfl) ?_
        | refine CallF (c_laws_toWatch a (by omega)) rfl rfl rfl (Nat.le_of_ble_eq_true rfl) ?_
        | refine Call0 (pc_true (c_laws_eqIntS R R hRo) rfl) rfl rfl ?_
        | refine Call0 (pc_true (c_laws_eqWatch a a hok) rfl) rfl rfl ?_
        | refine CallI (nid := 4096 * 13 + 16 * 2) (f := 16) Try.func16 rfl (by kernel_rfl) 1000000 [1, 4, 5, 7, 8] 14 [.tmp 4] rfl rfl ?_
        | refine CallI (nid := 4096 * 17 + 16 * 2) (f := 17) Try.func17 rfl (by kernel_rfl) 2000000 [1, 4, 5, 7] 19 [.tmp 4] rfl rfl ?_
        | refine CallI (f := 50) Try.func50 rfl (by kernel_rfl) 3000000 [2] 20 [.tmp 4] rfl rfl ?_
        | refine CallI (f := 51) Try.func51 rfl (by kernel_rfl) 4000000 [] 34 [.tmp 4] rfl rfl ?_
        | refine Call0 (c_laws_heldIntS 1 R.length (by omega) (by omega)) (held_ints (mark_end (by omega) (by omega))) rfl ?_)
    | (show Go.Ab.CallD _ _ _ _ _ _ _; first
        | (by_cases hn : (1048576 : Int) - ((WatchT.w a : Nat) : Int) < 0 <;> first | refine CallD0 (pc_szneg (c_laws_szWatch a (1048576 : Int) (by omega) (by omega) hok) hn) rfl rfl rfl ?_ | refine CallD0 (pc_szpos (c_laws_szWatch a (1048576 : Int) (by omega) (by omega) hok) hn) rfl rfl rfl ?_)
        | refine CallDF (hS (by omega)) rfl rfl ⟨rfl, rfl⟩ ?_
        | refine CallDF (hI (by omega)) rfl rfl ⟨rfl, rfl⟩ ?_
        | refine CallDF (c_laws_toWatch a (by omega)) rfl rfl ⟨rfl, rfl⟩ ?_
        | refine CallD0 (pc_true (c_laws_eqIntS R R hRo) rfl) rfl rfl rfl ?_
        | refine CallD0 (pc_true (c_laws_eqWatch a a hok) rfl) rfl rfl rfl ?_
        | refine CallD0 (c_laws_heldIntS 1 R.length (by omega) (by omega)) (held_ints (mark_end (by omega) (by omega))) rfl ?_)
    | (show Go.Ab.RetI _ _ _ _ _ _ _ _; refine RetI_of rfl ?_)
    | refine ix_map_at hx ?_
    | refine ix_map_at hy ?_
    | refine sl_pre (by omega) (fun _ => rfl) ?_
    | refine sl_suf (by omega) (fun _ => rfl) ?_
    | (refine ix_map2 hx (by omega) (by (try simp only [List.length_take]); omega) (fun y hy => ?_); try simp only [Int.toNat_natCast] at hy)
    | (refine ix_map (by omega) (by (try simp only [List.length_take]); omega) (fun x hx => ?_); try simp only [Int.toNat_natCast] at hx)
    | refine side_and (side_of (by first | (and_intros <;> first | exact Nat.le_of_ble_eq_true rfl | rfl | omega | (simp only [List.length_map, List.length_append, List.length_replicate, List.length_take, List.length_cons, List.length_nil, List.length_drop, List.length_set, markList_length]; omega) | exact bytes_ok (Nat.le_of_ble_eq_true rfl) (by omega) (by simp only [List.length_map, List.length_append, List.length_replicate, List.length_take, List.length_cons, List.length_nil, List.length_drop, List.length_set, markList_length]; omega) | exact bytes_okN (Nat.le_of_ble_eq_true rfl) (by simp only [List.length_map, List.length_append, List.length_replicate, List.length_take, List.length_cons, List.length_nil, List.length_drop, List.length_set, markList_length]; omega)) | fail)) ?_
    | refine nilB_intro (fun h => ?_) ?_
    | refine side_and (side_of (map_len (fun _ => rfl))) ?_
    | refine side_and (side_of (map_one (fun _ => rfl) _)) ?_
    | refine side_and ?_ ?_
    | refine LoadK_of rfl rfl ?_
    | (obtain ⟨x, hx⟩ := get_lt (xs := a.Clocks) (i := i) (by omega); refine ix_mark (by simp only [List.length_map, markList_length]) hx ?_)
    | refine ix_set (by simp only [List.length_map, List.length_append, List.length_drop, List.length_set, markList_length]; omega) ?_
    | (obtain ⟨x, hx⟩ := get_lt (xs := a.Given) (i := i) (by omega); refine ix_mark (by simp only [List.length_map, markList_length]) hx ?_)
    | refine ix_set (by simp only [List.length_map, List.length_append, List.length_drop, List.length_set, markList_length]; omega) ?_
    | (obtain ⟨x, hx⟩ := get_lt (xs := R) (i := i) (by omega); refine ix_mark (by simp only [List.length_map, markList_length]) hx ?_)
    | refine ix_set (by simp only [List.length_map, List.length_append, List.length_drop, List.length_set, markList_length]; omega) ?_
    | (show False; omega)
  all_goals
    conv => whnf
    refine OutA_plain rfl rfl ?_
    first | rfl | (exfalso; omega) | (exfalso; simp at *; omega)
theorem holders_len (a : WatchT) : (holders a).length ≤ a.Clocks.length := by
  unfold holders
  split
  · exact whoList_len
  · exact Nat.zero_le _
theorem c_laws_FnExactHoldersOf (a : WatchT) (hok : a.ok) : PC Try.prog false 3 [.agg a.cells] (.bool true) [] := by
  by_cases hw : a.w ≤ 1048576
  · have hw2 : a.w = a.Clocks.length + a.Given.length := rfl
    have := holders_len a
    exact law_HoldersOf a (holders a) (okWatch a) hok (by omega) (c_spec_HoldersOf a hok) (c_impl_HoldersOf a hok)
  · exact law_HoldersOf a [] false hok (Nat.zero_le _) (fun h => absurd h hw) (fun h => absurd h hw)
end Go.Proofs.Ytcdlapjpnenkdaa
