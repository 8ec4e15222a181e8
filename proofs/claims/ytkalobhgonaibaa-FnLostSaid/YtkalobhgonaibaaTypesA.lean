/-
  What the laws' functions on IntS, StringS, Span, Clock, ClockS, Lease, LeaseS, Watch, Lock, LockS, Letter, LetterS, Net give.
  No condition.
-/
import Derived.Test.YtkalobhgonaibaaAb31
import Derived.Test.YtkalobhgonaibaaMark
import Derived.Test.YtkalobhgonaibaaProg
import Derived.KernelRfl
namespace Go.Proofs.Ytkalobhgonaibaa
open Go.Ab
set_option linter.unusedSimpArgs false
set_option maxRecDepth 20000
set_option maxHeartbeats 4000000
set_option linter.unusedVariables false

theorem c_laws_eqStringS (xs ys : List (List UInt8)) (hok : (okL okS) xs) : PC Try.prog false 117 [.sl (xs.map strC), .sl (ys.map strC)] (.bool (decide (xs = ys))) [] := by
  have hl := hok.1
  refine pc_at Try.func117 rfl (by kernel_rfl) 26 [.tmp 4] rfl rfl ?_
  repeat' (conv => whnf); first
    | refine nameB_true ?_
    | refine nameB_false ?_
    | refine nameB_yes (by assumption) ?_
    | refine nameB_no (by assumption) ?_
    | refine nameB_dyes (by assumption) ?_
    | refine nameB_dno (by assumption) ?_
    | (refine nameB_dec (fun h => ?_) (fun h => ?_) <;> try simp only [List.length_map, List.length_take, List.length_append, List.length_drop, List.length_set, markList_length, midL_len, mkL_length, Int.toNat_natCast, fact_byte] at h)
    | (refine nameB_cases (fun h => ?_) (fun h => ?_) <;> try simp only [bne_iff_ne, ne_eq, bne_eq_false_iff_eq, beq_iff_eq, beq_eq_false_iff_ne, Bool.not_eq_true', Bool.not_eq_false', Bool.or_eq_true, Bool.or_eq_false_iff, List.length_map, List.length_take, List.length_append, List.length_drop, List.length_set, markList_length, midL_len, mkL_length, Int.toNat_natCast, fact_byte] at h)
    | refine splitB_true ?_
    | refine splitB_false ?_
    | (refine splitB_intro (fun h => ?_) (fun h => ?_) <;> subst h)
    | refine draw_text (by kernel_rfl) (by kernel_rfl) (by kernel_rfl) ?_
    | refine both_intro ?_ ?_
    | refine eitherB_l ?_
    | exact True.intro
    | (show Go.Ab.Loop _ _ _; (refine Loop_at [0, 1] [] (Nat) (fun k => xs.take k = ys.take k ∧ k ≤ xs.length) (fun k => [(5, .int .i64 (k : Nat))]) (fun k => []) (fun k => xs.length - k) 0 ⟨by first | (simp_all <;> fail) | rfl | fail, trivial⟩ trivial (by (try dsimp only); first | trivial | (refine ⟨?_, by omega⟩; simp <;> fail) | (simp <;> fail) | fail) ?_; (conv => whnf); refine side_and (side_of (by first | exact fun k => rfl | exact fun k => by simp [headOk, closedE, closedO, closedL, AV.closed, hcap.closed, hasId, AObj.box, BK.ofB])) ?_; rintro k hT; try dsimp only at hT))
    | (show Go.Ab.Again _ _ _ _ _ _ _ _ _ _ _; refine Again_of (k + 1) ⟨by first | rfl | exact i64_next (by omega) | (simp_all <;> fail) | fail, trivial⟩ trivial (by first | (and_intros <;> first | rfl | trivial) | fail) (by first | (and_intros <;> first | rfl | trivial) | fail) rfl rfl rfl (by (try dsimp only); first | (exact ⟨take_next hT.1 hx hy (by assumption), by omega⟩) | fail) (show _ < _ by (try dsimp only); omega))
    | refine ix_map_at hx ?_
    | refine ix_map_at hy ?_
    | refine sl_pre (by omega) (fun _ => rfl) ?_
    | refine sl_suf (by omega) (fun _ => rfl) ?_
    | (refine ix_map2 hx (by omega) (by (try simp only [List.length_take]); omega) (fun y hy => ?_); try simp only [Int.toNat_natCast] at hy)
    | (refine ix_map (by omega) (by (try simp only [List.length_take]); omega) (fun x hx => ?_); try simp only [Int.toNat_natCast] at hx)
    | refine side_and (side_of (by first | (and_intros <;> first | exact Nat.le_of_ble_eq_true rfl | rfl | omega | (simp only [List.length_map, List.length_append, List.length_replicate, List.length_take, List.length_cons, List.length_nil, List.length_drop, List.length_set, markList_length, midL_len, mkL_length]; omega) | exact bytes_ok (Nat.le_of_ble_eq_true rfl) (by omega) (by simp only [List.length_map, List.length_append, List.length_replicate, List.length_take, List.length_cons, List.length_nil, List.length_drop, List.length_set, markList_length, midL_len, mkL_length]; omega) | exact bytes_okN (Nat.le_of_ble_eq_true rfl) (by simp only [List.length_map, List.length_append, List.length_replicate, List.length_take, List.length_cons, List.length_nil, List.length_drop, List.length_set, markList_length, midL_len, mkL_length]; omega)) | fail)) ?_
    | refine nilB_intro (fun h => ?_) ?_
    | refine side_and (side_of (show Go.Ab.structOk _ _ = true by kernel_rfl)) ?_
    | refine side_and (side_of (map_len (fun _ => rfl))) ?_
    | refine side_and (side_of (map_one (fun _ => rfl) _)) ?_
    | refine side_and ?_ ?_
    | refine LoadK_of rfl rfl ?_
    | refine LoadD_cel rfl rfl rfl rfl ?_
    | refine LoadD_of rfl ?_
    | refine StoreD_of rfl rfl rfl ?_
    | refine AppD_of rfl (by and_intros <;> first | rfl | decide) (by simp only [List.length_map, List.length_append, List.length_take, List.length_cons, List.length_nil]; first | (refine ⟨by omega, ?_⟩; refine Nat.le_trans (Nat.mul_le_mul_left _ (show _ ≤ 512 by decide)) ?_; omega) | fail) ?_
    | refine AppN_of rfl rfl (by and_intros <;> rfl) (by simp only [List.length_map, List.length_append, List.length_take, List.length_cons, List.length_nil]; first | (refine ⟨by omega, ?_⟩; refine Nat.le_trans (Nat.mul_le_mul_left _ (show _ ≤ 512 by decide)) ?_; omega) | fail) ?_
    | (show False; omega)
  all_goals
    conv => whnf
    refine OutA_plain rfl rfl ?_
    first
    | exact bool_no (len_ne (by omega))
    | exact bool_no (get_ne hx hy (by assumption))
    | exact bool_yes (take_all_eq hT.1 (by omega) (by omega))
theorem m_laws_markStringS (xs : List (List UInt8)) (k : Int) (h0 : 0 ≤ k) (h1 : k + (cntL cnt1 xs : Int) ≤ 1152921504606846976) (hl : xs.length ≤ 1152921504606846976) : MC Try.prog 106 false [.sl (xs.map strC)] [.sl 9 1 [.leaf]] k [.sl ((mkL mkStr cnt1 xs k).map strC)] (k + (cntL cnt1 xs : Int)) := by
  refine mc_of Try.func106 rfl (by kernel_rfl) 20 [.tmp 4] [.own 0] rfl rfl (fun e => by first | rfl | cases e) rfl rfl ?_
  repeat' (conv => whnf); first
    | refine nameB_self (b := (_ == _)) ?_
    | refine nameB_true ?_
    | refine nameB_false ?_
    | refine nameB_yes (by assumption) ?_
    | refine nameB_no (by assumption) ?_
    | refine nameB_dyes (by assumption) ?_
    | refine nameB_dno (by assumption) ?_
    | (refine nameB_dec (fun h => ?_) (fun h => ?_) <;> try simp only [List.length_map, List.length_take, List.length_append, List.length_drop, List.length_set, markList_length, midL_len, mkL_length, Int.toNat_natCast, fact_byte] at h)
    | (refine nameB_cases (fun h => ?_) (fun h => ?_) <;> try simp only [bne_iff_ne, ne_eq, bne_eq_false_iff_eq, beq_iff_eq, beq_eq_false_iff_ne, Bool.not_eq_true', Bool.not_eq_false', Bool.or_eq_true, Bool.or_eq_false_iff, List.length_map, List.length_take, List.length_append, List.length_drop, List.length_set, markList_length, midL_len, mkL_length, Int.toNat_natCast, fact_byte] at h)
    | refine splitB_true ?_
    | refine splitB_false ?_
    | (refine splitB_intro (fun h => ?_) (fun h => ?_) <;> subst h)
    | refine draw_text (by kernel_rfl) (by kernel_rfl) (by kernel_rfl) ?_
    | refine both_intro ?_ ?_
    | refine eitherB_l ?_
    | exact True.intro
    | (show Go.Ab.Loop _ _ _; (refine Loop_at [0] [] (Nat) (fun i => i ≤ xs.length) (fun i => [(1, .int .i64 (k + (cntL cnt1 (xs.take i) : Int))), (5, .int .i64 (i : Nat))]) (fun i => [(0, ⟨.deep [.leaf], 9, 1, (midL mkStr cnt1 xs k i).map strC⟩)]) (fun i => xs.length - i) 0 ⟨by first | first | exact cnt0_eq | exact congrArg (AV.int IntKind.i64) (by first | (have hle := cntL_le (cnt := cnt1) hx; have hcx : cnt1 x = 1 := rfl; rw [cntL_take hx]; (try simp (disch := omega) only [i64w]); omega) | fail) | rfl | fail, by first | first | exact cnt0_eq | exact congrArg (AV.int IntKind.i64) (by first | (have hle := cntL_le (cnt := cnt1) hx; have hcx : cnt1 x = 1 := rfl; rw [cntL_take hx]; (try simp (disch := omega) only [i64w]); omega) | fail) | rfl | fail, trivial⟩ ⟨by first | rfl | first | exact congrArg (fun e => some (AObj.mk _ _ _ e)) (congrArg (List.map strC) midL_zero.symm) | exact congrArg (fun e => some (AObj.mk _ _ _ e)) (by first | (have hle := cntL_le (cnt := cnt1) hx; have hcx : cnt1 x = 1 := rfl; (try simp only [List.set_set, Int.toNat_natCast]); refine midL_next hx ?_; ((repeat' refine cells_eq ?_ ?_) <;> first | rfl | (refine congrArg (AV.int IntKind.i64) ?_; simp (disch := omega) only [i64w]; first | done | rfl) | (refine congrArg AV.str (congrArg mText ?_); simp (disch := omega) only [i64w]; first | done | rfl) | (refine congrArg AV.bool ?_; simp (disch := omega) only [i64w]; first | done | rfl) | (refine congrArg AV.sl ?_; simp (disch := omega) only [i64w]; first | done | rfl))) | fail) | fail | fail, trivial⟩ (by (try dsimp only); first | (exact Nat.zero_le _) | fail) ?_; (conv => whnf); refine side_and (side_of (by first | exact fun i => rfl | exact fun i => by simp [headOk, closedE, closedO, closedL, AV.closed, hcap.closed, hasId, AObj.box, BK.ofB])) ?_; rintro i hM; try dsimp only at hM))
    | (show Go.Ab.Again _ _ _ _ _ _ _ _ _ _ _; refine Again_of (i + 1) ⟨by first | first | exact cnt0_eq | exact congrArg (AV.int IntKind.i64) (by first | (have hle := cntL_le (cnt := cnt1) hx; have hcx : cnt1 x = 1 := rfl; rw [cntL_take hx]; (try simp (disch := omega) only [i64w]); omega) | fail) | rfl | fail, by first | rfl | exact i64_next (by omega) | first | exact cnt0_eq | exact congrArg (AV.int IntKind.i64) (by first | (have hle := cntL_le (cnt := cnt1) hx; have hcx : cnt1 x = 1 := rfl; rw [cntL_take hx]; (try simp (disch := omega) only [i64w]); omega) | fail) | fail, trivial⟩ ⟨by first | rfl | first | exact congrArg (fun e => some (AObj.mk _ _ _ e)) (congrArg (List.map strC) midL_zero.symm) | exact congrArg (fun e => some (AObj.mk _ _ _ e)) (by first | (have hle := cntL_le (cnt := cnt1) hx; have hcx : cnt1 x = 1 := rfl; (try simp only [List.set_set, Int.toNat_natCast]); refine midL_next hx ?_; ((repeat' refine cells_eq ?_ ?_) <;> first | rfl | (refine congrArg (AV.int IntKind.i64) ?_; simp (disch := omega) only [i64w]; first | done | rfl) | (refine congrArg AV.str (congrArg mText ?_); simp (disch := omega) only [i64w]; first | done | rfl) | (refine congrArg AV.bool ?_; simp (disch := omega) only [i64w]; first | done | rfl) | (refine congrArg AV.sl ?_; simp (disch := omega) only [i64w]; first | done | rfl))) | fail) | fail | fail, trivial⟩ (by first | (and_intros <;> first | rfl | trivial) | fail) (by first | (and_intros <;> first | rfl | trivial) | fail) rfl rfl rfl (by (try dsimp only); first | ((show i + 1 ≤ _; omega)) | fail) (show _ < _ by (try dsimp only); omega))
    | (show Go.Ab.CallA _ _ _ _ _ _ _; refine Call0 (c_laws_markText _ (by first | (obtain ⟨x, hx⟩ := get_lt (xs := xs) (i := i) (by omega); have hle := cntL_le (cnt := cnt1) hx; have hcx : cnt1 x = 1 := rfl; first | omega | (simp (disch := omega) only [i64w]; omega)) | fail)) rfl rfl ?_)
    | refine ix_map_at hx ?_
    | refine ix_map_at hy ?_
    | refine sl_pre (by omega) (fun _ => rfl) ?_
    | refine sl_suf (by omega) (fun _ => rfl) ?_
    | (refine ix_map2 hx (by omega) (by (try simp only [List.length_take]); omega) (fun y hy => ?_); try simp only [Int.toNat_natCast] at hy)
    | (refine ix_map (by omega) (by (try simp only [List.length_take]); omega) (fun x hx => ?_); try simp only [Int.toNat_natCast] at hx)
    | refine side_and (side_of (by first | (and_intros <;> first | exact Nat.le_of_ble_eq_true rfl | rfl | omega | (simp only [List.length_map, List.length_append, List.length_replicate, List.length_take, List.length_cons, List.length_nil, List.length_drop, List.length_set, markList_length, midL_len, mkL_length]; omega) | exact bytes_ok (Nat.le_of_ble_eq_true rfl) (by omega) (by simp only [List.length_map, List.length_append, List.length_replicate, List.length_take, List.length_cons, List.length_nil, List.length_drop, List.length_set, markList_length, midL_len, mkL_length]; omega) | exact bytes_okN (Nat.le_of_ble_eq_true rfl) (by simp only [List.length_map, List.length_append, List.length_replicate, List.length_take, List.length_cons, List.length_nil, List.length_drop, List.length_set, markList_length, midL_len, mkL_length]; omega)) | fail)) ?_
    | refine nilB_intro (fun h => ?_) ?_
    | refine side_and (side_of (show Go.Ab.structOk _ _ = true by kernel_rfl)) ?_
    | refine side_and (side_of (map_len (fun _ => rfl))) ?_
    | refine side_and (side_of (map_one (fun _ => rfl) _)) ?_
    | refine side_and ?_ ?_
    | refine LoadK_of rfl rfl ?_
    | refine LoadD_cel rfl rfl rfl rfl ?_
    | refine LoadD_of rfl ?_
    | refine StoreD_of rfl rfl rfl ?_
    | refine AppD_of rfl (by and_intros <;> first | rfl | decide) (by simp only [List.length_map, List.length_append, List.length_take, List.length_cons, List.length_nil]; first | (refine ⟨by omega, ?_⟩; refine Nat.le_trans (Nat.mul_le_mul_left _ (show _ ≤ 512 by decide)) ?_; omega) | fail) ?_
    | refine AppN_of rfl rfl (by and_intros <;> rfl) (by simp only [List.length_map, List.length_append, List.length_take, List.length_cons, List.length_nil]; first | (refine ⟨by omega, ?_⟩; refine Nat.le_trans (Nat.mul_le_mul_left _ (show _ ≤ 512 by decide)) ?_; omega) | fail) ?_
    | refine ix_setN (by simp only [List.length_set, List.length_map, midL_len]; omega) ?_
    | refine ix_mid (by omega) (fun x hx => ?_)
    | (show False; omega)
  all_goals
    conv => whnf
    refine OutM_of (by rfl) (by rfl) (by rfl) ?_ ?_
    · exact congrArg (fun n : Nat => AV.int .i64 (k + (n : Int))) (cntL_end (by omega))
    · exact congrArg (fun l => [AV.sl (List.map strC l)]) (midL_end (by omega))
theorem c_laws_heldStringS (xs : List (List UInt8)) (k : Int) (h0 : 0 ≤ k) (h1 : k + (cntL cnt1 xs : Int) ≤ 1152921504606846976) (hl : xs.length ≤ 1152921504606846976) : PC Try.prog false 108 [.sl ((mkL mkStr cnt1 xs k).map strC), .int .i64 k] (.int .i64 (k + (cntL cnt1 xs : Int))) [] := by
  refine pc_at Try.func108 rfl (by kernel_rfl) 22 [.tmp 4] rfl rfl ?_
  repeat' (conv => whnf); first
    | refine ix_mk_at hx ?_
    | refine ix_mk (i := i) rfl (by omega) (fun x hx => ?_)
    | refine nameB_no (by first | (have hle := cntL_le (cnt := cnt1) hx; have hcx : cnt1 x = 1 := rfl; simp (disch := omega) only [i64w, bne_self_eq_false, beq_self_eq_true, Bool.not_true] <;> fail) | fail) ?_
    | refine nameB_no (held_no (by first | (have hle := cntL_le (cnt := cnt1) hx; have hcx : cnt1 x = 1 := rfl; first | rfl | (simp (disch := omega) only [i64w] <;> fail) | (simp (disch := omega) only [i64w]; rfl)) | fail)) ?_
    | refine nameB_no (heldB_no (by first | (have hle := cntL_le (cnt := cnt1) hx; have hcx : cnt1 x = 1 := rfl; first | rfl | (simp (disch := omega) only [i64w] <;> fail) | (simp (disch := omega) only [i64w]; rfl)) | fail)) ?_
    | refine nameB_self (b := (_ == _)) ?_
    | refine nameB_true ?_
    | refine nameB_false ?_
    | refine nameB_yes (by assumption) ?_
    | refine nameB_no (by assumption) ?_
    | refine nameB_dyes (by assumption) ?_
    | refine nameB_dno (by assumption) ?_
    | (refine nameB_dec (fun h => ?_) (fun h => ?_) <;> try simp only [List.length_map, List.length_take, List.length_append, List.length_drop, List.length_set, markList_length, midL_len, mkL_length, Int.toNat_natCast, fact_byte] at h)
    | (refine nameB_cases (fun h => ?_) (fun h => ?_) <;> try simp only [bne_iff_ne, ne_eq, bne_eq_false_iff_eq, beq_iff_eq, beq_eq_false_iff_ne, Bool.not_eq_true', Bool.not_eq_false', Bool.or_eq_true, Bool.or_eq_false_iff, List.length_map, List.length_take, List.length_append, List.length_drop, List.length_set, markList_length, midL_len, mkL_length, Int.toNat_natCast, fact_byte] at h)
    | refine splitB_true ?_
    | refine splitB_false ?_
    | (refine splitB_intro (fun h => ?_) (fun h => ?_) <;> subst h)
    | refine draw_text (by kernel_rfl) (by kernel_rfl) (by kernel_rfl) ?_
    | refine both_intro ?_ ?_
    | refine eitherB_l ?_
    | exact True.intro
    | (show Go.Ab.Loop _ _ _; (refine Loop_at [0] [] (Nat) (fun i => i ≤ xs.length) (fun i => [(1, .int .i64 (k + (cntL cnt1 (xs.take i) : Int))), (5, .int .i64 (i : Nat))]) (fun i => []) (fun i => xs.length - i) 0 ⟨by first | first | exact cnt0_eq | exact congrArg (AV.int IntKind.i64) (by first | (have hle := cntL_le (cnt := cnt1) hx; have hcx : cnt1 x = 1 := rfl; rw [cntL_take hx]; (try simp (disch := omega) only [i64w]); omega) | fail) | rfl | fail, by first | first | exact cnt0_eq | exact congrArg (AV.int IntKind.i64) (by first | (have hle := cntL_le (cnt := cnt1) hx; have hcx : cnt1 x = 1 := rfl; rw [cntL_take hx]; (try simp (disch := omega) only [i64w]); omega) | fail) | rfl | fail, trivial⟩ trivial (by (try dsimp only); first | (exact Nat.zero_le _) | fail) ?_; (conv => whnf); refine side_and (side_of (by first | exact fun i => rfl | exact fun i => by simp [headOk, closedE, closedO, closedL, AV.closed, hcap.closed, hasId, AObj.box, BK.ofB])) ?_; rintro i hM; try dsimp only at hM))
    | (show Go.Ab.Again _ _ _ _ _ _ _ _ _ _ _; refine Again_of (i + 1) ⟨by first | first | exact cnt0_eq | exact congrArg (AV.int IntKind.i64) (by first | (have hle := cntL_le (cnt := cnt1) hx; have hcx : cnt1 x = 1 := rfl; rw [cntL_take hx]; (try simp (disch := omega) only [i64w]); omega) | fail) | rfl | fail, by first | rfl | exact i64_next (by omega) | first | exact cnt0_eq | exact congrArg (AV.int IntKind.i64) (by first | (have hle := cntL_le (cnt := cnt1) hx; have hcx : cnt1 x = 1 := rfl; rw [cntL_take hx]; (try simp (disch := omega) only [i64w]); omega) | fail) | fail, trivial⟩ trivial (by first | (and_intros <;> first | rfl | trivial) | fail) (by first | (and_intros <;> first | rfl | trivial) | fail) rfl rfl rfl (by (try dsimp only); first | ((show i + 1 ≤ _; omega)) | fail) (show _ < _ by (try dsimp only); omega))
    | (show Go.Ab.CallA _ _ _ _ _ _ _; refine Call0 (c_laws_markText _ (by first | (have hle := cntL_le (cnt := cnt1) hx; have hcx : cnt1 x = 1 := rfl; first | omega | (simp (disch := omega) only [i64w]; omega)) | fail)) rfl rfl ?_)
    | (show Go.Ab.CallD _ _ _ _ _ _ _; refine CallD0 (c_laws_markText _ (by first | (have hle := cntL_le (cnt := cnt1) hx; have hcx : cnt1 x = 1 := rfl; first | omega | (simp (disch := omega) only [i64w]; omega)) | fail)) rfl rfl rfl ?_)
    | refine ix_map_at hx ?_
    | refine ix_map_at hy ?_
    | refine sl_pre (by omega) (fun _ => rfl) ?_
    | refine sl_suf (by omega) (fun _ => rfl) ?_
    | (refine ix_map2 hx (by omega) (by (try simp only [List.length_take]); omega) (fun y hy => ?_); try simp only [Int.toNat_natCast] at hy)
    | (refine ix_map (by omega) (by (try simp only [List.length_take]); omega) (fun x hx => ?_); try simp only [Int.toNat_natCast] at hx)
    | refine side_and (side_of (by first | (and_intros <;> first | exact Nat.le_of_ble_eq_true rfl | rfl | omega | (simp only [List.length_map, List.length_append, List.length_replicate, List.length_take, List.length_cons, List.length_nil, List.length_drop, List.length_set, markList_length, midL_len, mkL_length]; omega) | exact bytes_ok (Nat.le_of_ble_eq_true rfl) (by omega) (by simp only [List.length_map, List.length_append, List.length_replicate, List.length_take, List.length_cons, List.length_nil, List.length_drop, List.length_set, markList_length, midL_len, mkL_length]; omega) | exact bytes_okN (Nat.le_of_ble_eq_true rfl) (by simp only [List.length_map, List.length_append, List.length_replicate, List.length_take, List.length_cons, List.length_nil, List.length_drop, List.length_set, markList_length, midL_len, mkL_length]; omega)) | fail)) ?_
    | refine nilB_intro (fun h => ?_) ?_
    | refine side_and (side_of (show Go.Ab.structOk _ _ = true by kernel_rfl)) ?_
    | refine side_and (side_of (map_len (fun _ => rfl))) ?_
    | refine side_and (side_of (map_one (fun _ => rfl) _)) ?_
    | refine side_and ?_ ?_
    | refine LoadK_of rfl rfl ?_
    | refine LoadD_cel rfl rfl rfl rfl ?_
    | refine LoadD_of rfl ?_
    | refine StoreD_of rfl rfl rfl ?_
    | refine AppD_of rfl (by and_intros <;> first | rfl | decide) (by simp only [List.length_map, List.length_append, List.length_take, List.length_cons, List.length_nil]; first | (refine ⟨by omega, ?_⟩; refine Nat.le_trans (Nat.mul_le_mul_left _ (show _ ≤ 512 by decide)) ?_; omega) | fail) ?_
    | refine AppN_of rfl rfl (by and_intros <;> rfl) (by simp only [List.length_map, List.length_append, List.length_take, List.length_cons, List.length_nil]; first | (refine ⟨by omega, ?_⟩; refine Nat.le_trans (Nat.mul_le_mul_left _ (show _ ≤ 512 by decide)) ?_; omega) | fail) ?_
    | (show False; omega)
  all_goals
    conv => whnf
    refine OutA_plain rfl rfl ?_
    first
    | exact congrArg (fun n : Nat => AV.int .i64 (k + (n : Int))) (cntL_end (by omega))
    | (exfalso; omega)
structure SpanT where
  Low : Int
  High : Int
deriving DecidableEq
def SpanT.cells (x : SpanT) : List AV := [.int .i64 x.Low, .int .i64 x.High]
def SpanT.ok (x : SpanT) : Prop := okT x.Low ∧ okT x.High
theorem SpanT.same {x y : SpanT} (hLow : x.Low = y.Low) (hHigh : x.High = y.High) : x = y := by cases x; cases y; simp_all
def SpanT.shp : List Shp := [.leaf, .leaf]
def SpanT.mkM (x : SpanT) (k : Int) : SpanT := ⟨k, k + 1⟩
def SpanT.cnt (x : SpanT) : Nat := 1 + 1
theorem cntL_len_Span (xs : List SpanT) : xs.length ≤ cntL SpanT.cnt xs := by
  induction xs with
  | nil => exact Nat.zero_le _
  | cons x xs ih =>
    simp only [cntL, List.map_cons, List.sum_cons, List.length_cons] at ih ⊢
    have hcx : SpanT.cnt x = 1 + 1 := rfl
    omega
theorem SpanT.cnt_w (x : SpanT) : SpanT.cnt x ≤ 100 := by
  exact Nat.le_of_ble_eq_true rfl
structure ClockT where
  Off : Int
deriving DecidableEq
def ClockT.cells (x : ClockT) : List AV := [.int .i64 x.Off]
def ClockT.ok (x : ClockT) : Prop := okT x.Off
theorem ClockT.same {x y : ClockT} (hOff : x.Off = y.Off) : x = y := by cases x; cases y; simp_all
def ClockT.shp : List Shp := [.leaf]
def ClockT.mkM (x : ClockT) (k : Int) : ClockT := ⟨k⟩
def ClockT.cnt (x : ClockT) : Nat := 1
theorem cntL_len_Clock (xs : List ClockT) : xs.length ≤ cntL ClockT.cnt xs := by
  induction xs with
  | nil => exact Nat.zero_le _
  | cons x xs ih =>
    simp only [cntL, List.map_cons, List.sum_cons, List.length_cons] at ih ⊢
    have hcx : ClockT.cnt x = 1 := rfl
    omega
theorem ClockT.cnt_w (x : ClockT) : ClockT.cnt x ≤ 100 := by
  exact Nat.le_of_ble_eq_true rfl
structure LeaseT where
  Who : Int
  From : Int
  Until : Int
deriving DecidableEq
def LeaseT.cells (x : LeaseT) : List AV := [.int .i64 x.Who, .int .i64 x.From, .int .i64 x.Until]
def LeaseT.ok (x : LeaseT) : Prop := okT x.Who ∧ okT x.From ∧ okT x.Until
theorem LeaseT.same {x y : LeaseT} (hWho : x.Who = y.Who) (hFrom : x.From = y.From) (hUntil : x.Until = y.Until) : x = y := by cases x; cases y; simp_all
def LeaseT.shp : List Shp := [.leaf, .leaf, .leaf]
def LeaseT.mkM (x : LeaseT) (k : Int) : LeaseT := ⟨k, k + 1, k + 1 + 1⟩
def LeaseT.cnt (x : LeaseT) : Nat := 1 + 1 + 1
theorem cntL_len_Lease (xs : List LeaseT) : xs.length ≤ cntL LeaseT.cnt xs := by
  induction xs with
  | nil => exact Nat.zero_le _
  | cons x xs ih =>
    simp only [cntL, List.map_cons, List.sum_cons, List.length_cons] at ih ⊢
    have hcx : LeaseT.cnt x = 1 + 1 + 1 := rfl
    omega
theorem LeaseT.cnt_w (x : LeaseT) : LeaseT.cnt x ≤ 100 := by
  exact Nat.le_of_ble_eq_true rfl
structure WatchT where
  True : Int
  Clocks : List ClockT
  Given : List LeaseT
deriving DecidableEq
def WatchT.cells (x : WatchT) : List AV := [.int .i64 x.True, .sl (x.Clocks.map ClockT.cells), .sl (x.Given.map LeaseT.cells)]
def WatchT.ok (x : WatchT) : Prop := okT x.True ∧ (okL ClockT.ok) x.Clocks ∧ (okL LeaseT.ok) x.Given
def WatchT.w (x : WatchT) : Nat := x.Clocks.length + x.Given.length
theorem WatchT.same {x y : WatchT} (hTrue : x.True = y.True) (hClocks : x.Clocks = y.Clocks) (hGiven : x.Given = y.Given) : x = y := by cases x; cases y; simp_all
def WatchT.mkM (x : WatchT) (k : Int) : WatchT := ⟨k, mkL ClockT.mkM ClockT.cnt x.Clocks (k + 1), mkL LeaseT.mkM LeaseT.cnt x.Given (k + 1 + (cntL ClockT.cnt x.Clocks : Int))⟩
def WatchT.cnt (x : WatchT) : Nat := 1 + cntL ClockT.cnt x.Clocks + cntL LeaseT.cnt x.Given
theorem cntL_len_Watch (xs : List WatchT) : xs.length ≤ cntL WatchT.cnt xs := by
  induction xs with
  | nil => exact Nat.zero_le _
  | cons x xs ih =>
    simp only [cntL, List.map_cons, List.sum_cons, List.length_cons] at ih ⊢
    have hcx : WatchT.cnt x = 1 + cntL ClockT.cnt x.Clocks + cntL LeaseT.cnt x.Given := rfl
    omega
def WatchT.mkS (x : WatchT) (k : Int) : WatchT := ⟨x.True, mkL ClockT.mkM ClockT.cnt x.Clocks k, mkL LeaseT.mkM LeaseT.cnt x.Given (k + (cntL ClockT.cnt x.Clocks : Int))⟩
def WatchT.cntS (x : WatchT) (k : Int) : Int := k + (cntL ClockT.cnt x.Clocks : Int) + (cntL LeaseT.cnt x.Given : Int)
theorem WatchT.cnt_w (x : WatchT) : WatchT.cnt x ≤ 100 * (1 + WatchT.w x) := by
  have h0 := cntL_l100 (cnt := ClockT.cnt) (fun y => ClockT.cnt_w y) x.Clocks
  have h1 := cntL_l100 (cnt := LeaseT.cnt) (fun y => LeaseT.cnt_w y) x.Given
  simp only [WatchT.cnt, WatchT.w] at *
  omega
theorem WatchT.cntS_w (x : WatchT) (k : Int) : WatchT.cntS x k ≤ k + 100 * (1 + (WatchT.w x : Int)) := by
  have h0 := cntL_l100 (cnt := ClockT.cnt) (fun y => ClockT.cnt_w y) x.Clocks
  have h1 := cntL_l100 (cnt := LeaseT.cnt) (fun y => LeaseT.cnt_w y) x.Given
  simp only [WatchT.cntS, WatchT.cnt, WatchT.w] at *
  omega
structure LockT where
  Key : List UInt8
  Txn : Int
  Write : Bool
deriving DecidableEq
def LockT.cells (x : LockT) : List AV := [.str x.Key, .int .i64 x.Txn, .bool x.Write]
def LockT.ok (x : LockT) : Prop := okS x.Key ∧ okT x.Txn ∧ okT x.Write
def LockT.w (x : LockT) : Nat := x.Key.length
theorem LockT.same {x y : LockT} (hKey : x.Key = y.Key) (hTxn : x.Txn = y.Txn) (hWrite : x.Write = y.Write) : x = y := by cases x; cases y; simp_all
theorem open_Lock : ∀ n cs, Sh Try.prog n 60 cs → ∃ x : LockT, cs = LockT.cells x ∧ LockT.ok x := by
  intro n cs h
  cases n with
  | zero => unfold Sh at h; exact h.elim
  | succ n =>
    unfold Sh at h
    rw [Try.underlying60] at h
    simp only [ShL] at h
    obtain ⟨y0, z0, rfl, g0, y1, z1, rfl, g1, y2, z2, rfl, g2, rfl⟩ := h
    obtain ⟨x0, rfl, o0⟩ := open_str Try.underlying9 _ _ g0
    obtain ⟨x1, rfl, o1⟩ := open_int Try.underlying3 _ _ g1
    obtain ⟨x2, rfl, o2⟩ := open_bool Try.underlying4 _ _ g2
    exact ⟨⟨x0, x1, x2⟩, rfl, o0, o1, o2⟩
def LockT.shp : List Shp := [.leaf, .leaf, .leaf]
def LockT.mkM (x : LockT) (k : Int) : LockT := ⟨mText k, k + 1, ((k + 1 + 1).tmod 3 == 0)⟩
def LockT.cnt (x : LockT) : Nat := 1 + 1 + 1
theorem cntL_len_Lock (xs : List LockT) : xs.length ≤ cntL LockT.cnt xs := by
  induction xs with
  | nil => exact Nat.zero_le _
  | cons x xs ih =>
    simp only [cntL, List.map_cons, List.sum_cons, List.length_cons] at ih ⊢
    have hcx : LockT.cnt x = 1 + 1 + 1 := rfl
    omega
theorem LockT.cnt_w (x : LockT) : LockT.cnt x ≤ 100 * (1 + LockT.w x) := by
  simp only [LockT.cnt, LockT.w] at *
  omega
theorem c_laws_szLock (x : LockT) (n : Int) (h0 : 0 ≤ n) (h1 : n ≤ 1048576) (hok : x.ok) : PC Try.prog false 32 [.agg x.cells, .int .i64 n] (.int .i64 (szN n x.w)) [] := by
  have oKey : okS x.Key := hok.1
  have bKey : x.Key.length ≤ 9223372036854775807 := oKey
  have hw : x.w = x.Key.length := rfl
  refine pc_at Try.func32 rfl (by kernel_rfl) 13 [.tmp 4] rfl rfl ?_
  repeat' (conv => whnf); first
    | refine nameB_true ?_
    | refine nameB_false ?_
    | refine nameB_yes (by assumption) ?_
    | refine nameB_no (by assumption) ?_
    | refine nameB_dyes (by assumption) ?_
    | refine nameB_dno (by assumption) ?_
    | (refine nameB_dec (fun h => ?_) (fun h => ?_) <;> try simp only [List.length_map, List.length_take, List.length_append, List.length_drop, List.length_set, markList_length, midL_len, mkL_length, Int.toNat_natCast, fact_byte] at h)
    | (refine nameB_cases (fun h => ?_) (fun h => ?_) <;> try simp only [bne_iff_ne, ne_eq, bne_eq_false_iff_eq, beq_iff_eq, beq_eq_false_iff_ne, Bool.not_eq_true', Bool.not_eq_false', Bool.or_eq_true, Bool.or_eq_false_iff, List.length_map, List.length_take, List.length_append, List.length_drop, List.length_set, markList_length, midL_len, mkL_length, Int.toNat_natCast, fact_byte] at h)
    | refine splitB_true ?_
    | refine splitB_false ?_
    | (refine splitB_intro (fun h => ?_) (fun h => ?_) <;> subst h)
    | refine draw_text (by kernel_rfl) (by kernel_rfl) (by kernel_rfl) ?_
    | refine both_intro ?_ ?_
    | refine eitherB_l ?_
    | exact True.intro
    | refine ix_map_at hx ?_
    | refine ix_map_at hy ?_
    | refine sl_pre (by omega) (fun _ => rfl) ?_
    | refine sl_suf (by omega) (fun _ => rfl) ?_
    | (refine ix_map2 hx (by omega) (by (try simp only [List.length_take]); omega) (fun y hy => ?_); try simp only [Int.toNat_natCast] at hy)
    | (refine ix_map (by omega) (by (try simp only [List.length_take]); omega) (fun x hx => ?_); try simp only [Int.toNat_natCast] at hx)
    | refine side_and (side_of (by first | (and_intros <;> first | exact Nat.le_of_ble_eq_true rfl | rfl | omega | (simp only [List.length_map, List.length_append, List.length_replicate, List.length_take, List.length_cons, List.length_nil, List.length_drop, List.length_set, markList_length, midL_len, mkL_length]; omega) | exact bytes_ok (Nat.le_of_ble_eq_true rfl) (by omega) (by simp only [List.length_map, List.length_append, List.length_replicate, List.length_take, List.length_cons, List.length_nil, List.length_drop, List.length_set, markList_length, midL_len, mkL_length]; omega) | exact bytes_okN (Nat.le_of_ble_eq_true rfl) (by simp only [List.length_map, List.length_append, List.length_replicate, List.length_take, List.length_cons, List.length_nil, List.length_drop, List.length_set, markList_length, midL_len, mkL_length]; omega)) | fail)) ?_
    | refine nilB_intro (fun h => ?_) ?_
    | refine side_and (side_of (show Go.Ab.structOk _ _ = true by kernel_rfl)) ?_
    | refine side_and (side_of (map_len (fun _ => rfl))) ?_
    | refine side_and (side_of (map_one (fun _ => rfl) _)) ?_
    | refine side_and ?_ ?_
    | refine LoadK_of rfl rfl ?_
    | refine LoadD_cel rfl rfl rfl rfl ?_
    | refine LoadD_of rfl ?_
    | refine StoreD_of rfl rfl rfl ?_
    | refine AppD_of rfl (by and_intros <;> first | rfl | decide) (by simp only [List.length_map, List.length_append, List.length_take, List.length_cons, List.length_nil]; first | (refine ⟨by omega, ?_⟩; refine Nat.le_trans (Nat.mul_le_mul_left _ (show _ ≤ 512 by decide)) ?_; omega) | fail) ?_
    | refine AppN_of rfl rfl (by and_intros <;> rfl) (by simp only [List.length_map, List.length_append, List.length_take, List.length_cons, List.length_nil]; first | (refine ⟨by omega, ?_⟩; refine Nat.le_trans (Nat.mul_le_mul_left _ (show _ ≤ 512 by decide)) ?_; omega) | fail) ?_
    | (show False; omega)
  all_goals
    conv => whnf
    refine OutA_plain rfl rfl ?_
    refine congrArg (AV.int .i64) ?_
    (try simp only [i64_wrap_eq] at *)
    first | exact szN_neg (by omega) | exact szN_pos (by omega) (by omega)
theorem c_laws_toLock (x : LockT) : PC Try.prog false 36 [.agg x.cells] (.agg (LockT.cells x)) [] := by
  refine pc_at Try.func36 rfl (by kernel_rfl) 14 [.cell 2 64] rfl rfl ?_
  repeat' (conv => whnf); first
    | refine nameB_self (b := x.Write) ?_
    | refine nameB_true ?_
    | refine nameB_false ?_
    | refine nameB_yes (by assumption) ?_
    | refine nameB_no (by assumption) ?_
    | refine nameB_dyes (by assumption) ?_
    | refine nameB_dno (by assumption) ?_
    | (refine nameB_dec (fun h => ?_) (fun h => ?_) <;> try simp only [List.length_map, List.length_take, List.length_append, List.length_drop, List.length_set, markList_length, midL_len, mkL_length, Int.toNat_natCast, fact_byte] at h)
    | (refine nameB_cases (fun h => ?_) (fun h => ?_) <;> try simp only [bne_iff_ne, ne_eq, bne_eq_false_iff_eq, beq_iff_eq, beq_eq_false_iff_ne, Bool.not_eq_true', Bool.not_eq_false', Bool.or_eq_true, Bool.or_eq_false_iff, List.length_map, List.length_take, List.length_append, List.length_drop, List.length_set, markList_length, midL_len, mkL_length, Int.toNat_natCast, fact_byte] at h)
    | refine splitB_true ?_
    | refine splitB_false ?_
    | (refine splitB_intro (fun h => ?_) (fun h => ?_) <;> subst h)
    | refine draw_text (by kernel_rfl) (by kernel_rfl) (by kernel_rfl) ?_
    | refine both_intro ?_ ?_
    | refine eitherB_l ?_
    | exact True.intro
    | refine ix_map_at hx ?_
    | refine ix_map_at hy ?_
    | refine sl_pre (by omega) (fun _ => rfl) ?_
    | refine sl_suf (by omega) (fun _ => rfl) ?_
    | (refine ix_map2 hx (by omega) (by (try simp only [List.length_take]); omega) (fun y hy => ?_); try simp only [Int.toNat_natCast] at hy)
    | (refine ix_map (by omega) (by (try simp only [List.length_take]); omega) (fun x hx => ?_); try simp only [Int.toNat_natCast] at hx)
    | refine side_and (side_of (by first | (and_intros <;> first | exact Nat.le_of_ble_eq_true rfl | rfl | omega | (simp only [List.length_map, List.length_append, List.length_replicate, List.length_take, List.length_cons, List.length_nil, List.length_drop, List.length_set, markList_length, midL_len, mkL_length]; omega) | exact bytes_ok (Nat.le_of_ble_eq_true rfl) (by omega) (by simp only [List.length_map, List.length_append, List.length_replicate, List.length_take, List.length_cons, List.length_nil, List.length_drop, List.length_set, markList_length, midL_len, mkL_length]; omega) | exact bytes_okN (Nat.le_of_ble_eq_true rfl) (by simp only [List.length_map, List.length_append, List.length_replicate, List.length_take, List.length_cons, List.length_nil, List.length_drop, List.length_set, markList_length, midL_len, mkL_length]; omega)) | fail)) ?_
    | refine nilB_intro (fun h => ?_) ?_
    | refine side_and (side_of (show Go.Ab.structOk _ _ = true by kernel_rfl)) ?_
    | refine side_and (side_of (map_len (fun _ => rfl))) ?_
    | refine side_and (side_of (map_one (fun _ => rfl) _)) ?_
    | refine side_and ?_ ?_
    | refine LoadK_of rfl rfl ?_
    | refine LoadD_cel rfl rfl rfl rfl ?_
    | refine LoadD_of rfl ?_
    | refine StoreD_of rfl rfl rfl ?_
    | refine AppD_of rfl (by and_intros <;> first | rfl | decide) (by simp only [List.length_map, List.length_append, List.length_take, List.length_cons, List.length_nil]; first | (refine ⟨by omega, ?_⟩; refine Nat.le_trans (Nat.mul_le_mul_left _ (show _ ≤ 512 by decide)) ?_; omega) | fail) ?_
    | refine AppN_of rfl rfl (by and_intros <;> rfl) (by simp only [List.length_map, List.length_append, List.length_take, List.length_cons, List.length_nil]; first | (refine ⟨by omega, ?_⟩; refine Nat.le_trans (Nat.mul_le_mul_left _ (show _ ≤ 512 by decide)) ?_; omega) | fail) ?_
    | (show False; omega)
  all_goals
    conv => whnf
    exact OutA_plain rfl rfl rfl
theorem c_laws_eqLock (x y : LockT) : PC Try.prog false 42 [.agg x.cells, .agg y.cells] (.bool (decide (x = y))) [] := by
  refine pc_at Try.func42 rfl (by kernel_rfl) 20 [.tmp 4] rfl rfl ?_
  repeat' (conv => whnf); first
    | refine nameB_self (b := x.Write) ?_
    | refine nameB_self (b := y.Write) ?_
    | refine nameB_true ?_
    | refine nameB_false ?_
    | refine nameB_yes (by assumption) ?_
    | refine nameB_no (by assumption) ?_
    | refine nameB_dyes (by assumption) ?_
    | refine nameB_dno (by assumption) ?_
    | (refine nameB_dec (fun h => ?_) (fun h => ?_) <;> try simp only [List.length_map, List.length_take, List.length_append, List.length_drop, List.length_set, markList_length, midL_len, mkL_length, Int.toNat_natCast, fact_byte] at h)
    | (refine nameB_cases (fun h => ?_) (fun h => ?_) <;> try simp only [bne_iff_ne, ne_eq, bne_eq_false_iff_eq, beq_iff_eq, beq_eq_false_iff_ne, Bool.not_eq_true', Bool.not_eq_false', Bool.or_eq_true, Bool.or_eq_false_iff, List.length_map, List.length_take, List.length_append, List.length_drop, List.length_set, markList_length, midL_len, mkL_length, Int.toNat_natCast, fact_byte] at h)
    | refine splitB_true ?_
    | refine splitB_false ?_
    | (refine splitB_intro (fun h => ?_) (fun h => ?_) <;> subst h)
    | refine draw_text (by kernel_rfl) (by kernel_rfl) (by kernel_rfl) ?_
    | refine both_intro ?_ ?_
    | refine eitherB_l ?_
    | exact True.intro
    | refine ix_map_at hx ?_
    | refine ix_map_at hy ?_
    | refine sl_pre (by omega) (fun _ => rfl) ?_
    | refine sl_suf (by omega) (fun _ => rfl) ?_
    | (refine ix_map2 hx (by omega) (by (try simp only [List.length_take]); omega) (fun y hy => ?_); try simp only [Int.toNat_natCast] at hy)
    | (refine ix_map (by omega) (by (try simp only [List.length_take]); omega) (fun x hx => ?_); try simp only [Int.toNat_natCast] at hx)
    | refine side_and (side_of (by first | (and_intros <;> first | exact Nat.le_of_ble_eq_true rfl | rfl | omega | (simp only [List.length_map, List.length_append, List.length_replicate, List.length_take, List.length_cons, List.length_nil, List.length_drop, List.length_set, markList_length, midL_len, mkL_length]; omega) | exact bytes_ok (Nat.le_of_ble_eq_true rfl) (by omega) (by simp only [List.length_map, List.length_append, List.length_replicate, List.length_take, List.length_cons, List.length_nil, List.length_drop, List.length_set, markList_length, midL_len, mkL_length]; omega) | exact bytes_okN (Nat.le_of_ble_eq_true rfl) (by simp only [List.length_map, List.length_append, List.length_replicate, List.length_take, List.length_cons, List.length_nil, List.length_drop, List.length_set, markList_length, midL_len, mkL_length]; omega)) | fail)) ?_
    | refine nilB_intro (fun h => ?_) ?_
    | refine side_and (side_of (show Go.Ab.structOk _ _ = true by kernel_rfl)) ?_
    | refine side_and (side_of (map_len (fun _ => rfl))) ?_
    | refine side_and (side_of (map_one (fun _ => rfl) _)) ?_
    | refine side_and ?_ ?_
    | refine LoadK_of rfl rfl ?_
    | refine LoadD_cel rfl rfl rfl rfl ?_
    | refine LoadD_of rfl ?_
    | refine StoreD_of rfl rfl rfl ?_
    | refine AppD_of rfl (by and_intros <;> first | rfl | decide) (by simp only [List.length_map, List.length_append, List.length_take, List.length_cons, List.length_nil]; first | (refine ⟨by omega, ?_⟩; refine Nat.le_trans (Nat.mul_le_mul_left _ (show _ ≤ 512 by decide)) ?_; omega) | fail) ?_
    | refine AppN_of rfl rfl (by and_intros <;> rfl) (by simp only [List.length_map, List.length_append, List.length_take, List.length_cons, List.length_nil]; first | (refine ⟨by omega, ?_⟩; refine Nat.le_trans (Nat.mul_le_mul_left _ (show _ ≤ 512 by decide)) ?_; omega) | fail) ?_
    | (show False; omega)
  all_goals
    conv => whnf
    refine OutA_plain rfl rfl ?_
    first
    | exact bool_no (fun e => absurd (congrArg LockT.Key e) (by assumption))
    | exact bool_no (fun e => absurd (congrArg LockT.Txn e) (by assumption))
    | exact bool_no (fun e => absurd (congrArg LockT.Write e) (by assumption))
    | exact bool_yes (LockT.same (by assumption) (by assumption) (by assumption))
theorem c_laws_szLockS (xs : List LockT) (n : Int) (h0 : 0 ≤ n) (h1 : n ≤ 1048576) (hok : (okL LockT.ok) xs) : PC Try.prog false 7 [.sl (xs.map LockT.cells), .int .i64 n] (.int .i64 (szN n (wL LockT.w xs))) [] := by
  have hl := hok.1
  refine pc_at Try.func7 rfl (by kernel_rfl) 27 [.tmp 4] rfl rfl ?_
  repeat' (conv => whnf); first
    | refine nameB_true ?_
    | refine nameB_false ?_
    | refine nameB_yes (by assumption) ?_
    | refine nameB_no (by assumption) ?_
    | refine nameB_dyes (by assumption) ?_
    | refine nameB_dno (by assumption) ?_
    | (refine nameB_dec (fun h => ?_) (fun h => ?_) <;> try simp only [List.length_map, List.length_take, List.length_append, List.length_drop, List.length_set, markList_length, midL_len, mkL_length, Int.toNat_natCast, fact_byte] at h)
    | (refine nameB_cases (fun h => ?_) (fun h => ?_) <;> try simp only [bne_iff_ne, ne_eq, bne_eq_false_iff_eq, beq_iff_eq, beq_eq_false_iff_ne, Bool.not_eq_true', Bool.not_eq_false', Bool.or_eq_true, Bool.or_eq_false_iff, List.length_map, List.length_take, List.length_append, List.length_drop, List.length_set, markList_length, midL_len, mkL_length, Int.toNat_natCast, fact_byte] at h)
    | refine splitB_true ?_
    | refine splitB_false ?_
    | (refine splitB_intro (fun h => ?_) (fun h => ?_) <;> subst h)
    | refine draw_text (by kernel_rfl) (by kernel_rfl) (by kernel_rfl) ?_
    | refine both_intro ?_ ?_
    | refine eitherB_l ?_
    | exact True.intro
    | (show Go.Ab.Loop _ _ _; (refine Loop_at [0] [] (Nat × Int) (fun j => match j with | (k, m) => (0 ≤ m ∧ m ≤ 1048576) ∧ m - (((xs.drop k).map LockT.w).sum : Nat) = n - (wL LockT.w xs : Nat) ∧ k ≤ xs.length) (fun j => match j with | (k, m) => [(1, .int .i64 m), (5, .int .i64 (k : Nat))]) (fun j => match j with | (k, m) => []) (fun j => match j with | (k, m) => xs.length - k) (0, _) ⟨rfl, by first | (simp_all <;> fail) | rfl | fail, trivial⟩ trivial (by (try dsimp only); first | ((simp only [i64_wrap_eq, List.length_map, wL, List.drop_zero] at *; omega)) | fail) ?_; (conv => whnf); refine side_and (side_of (by first | exact fun ⟨k, m⟩ => rfl | exact fun ⟨k, m⟩ => by simp [headOk, closedE, closedO, closedL, AV.closed, hcap.closed, hasId, AObj.box, BK.ofB])) ?_; rintro ⟨k, m⟩ hT; try dsimp only at hT))
    | (show Go.Ab.Again _ _ _ _ _ _ _ _ _ _ _; refine Again_of (k + 1, _) ⟨rfl, by first | rfl | exact i64_next (by omega) | (simp_all <;> fail) | fail, trivial⟩ trivial (by first | (and_intros <;> first | rfl | trivial) | fail) (by first | (and_intros <;> first | rfl | trivial) | fail) rfl rfl rfl (by (try dsimp only); first | ((have hs := sum_drop LockT.w hx; omega)) | fail) (show _ < _ by (try dsimp only); omega))
    | (show Go.Ab.CallA _ _ _ _ _ _ _; (by_cases hn : m - (LockT.w x : Nat) < 0 <;> first | refine Call0 (pc_szneg (c_laws_szLock x m hT.1.1 hT.1.2 (hok.2 x (List.mem_of_getElem? hx))) hn) rfl rfl ?_ | refine Call0 (pc_szpos (c_laws_szLock x m hT.1.1 hT.1.2 (hok.2 x (List.mem_of_getElem? hx))) hn) rfl rfl ?_))
    | refine ix_map_at hx ?_
    | refine ix_map_at hy ?_
    | refine sl_pre (by omega) (fun _ => rfl) ?_
    | refine sl_suf (by omega) (fun _ => rfl) ?_
    | (refine ix_map2 hx (by omega) (by (try simp only [List.length_take]); omega) (fun y hy => ?_); try simp only [Int.toNat_natCast] at hy)
    | (refine ix_map (by omega) (by (try simp only [List.length_take]); omega) (fun x hx => ?_); try simp only [Int.toNat_natCast] at hx)
    | refine side_and (side_of (by first | (and_intros <;> first | exact Nat.le_of_ble_eq_true rfl | rfl | omega | (simp only [List.length_map, List.length_append, List.length_replicate, List.length_take, List.length_cons, List.length_nil, List.length_drop, List.length_set, markList_length, midL_len, mkL_length]; omega) | exact bytes_ok (Nat.le_of_ble_eq_true rfl) (by omega) (by simp only [List.length_map, List.length_append, List.length_replicate, List.length_take, List.length_cons, List.length_nil, List.length_drop, List.length_set, markList_length, midL_len, mkL_length]; omega) | exact bytes_okN (Nat.le_of_ble_eq_true rfl) (by simp only [List.length_map, List.length_append, List.length_replicate, List.length_take, List.length_cons, List.length_nil, List.length_drop, List.length_set, markList_length, midL_len, mkL_length]; omega)) | fail)) ?_
    | refine nilB_intro (fun h => ?_) ?_
    | refine side_and (side_of (show Go.Ab.structOk _ _ = true by kernel_rfl)) ?_
    | refine side_and (side_of (map_len (fun _ => rfl))) ?_
    | refine side_and (side_of (map_one (fun _ => rfl) _)) ?_
    | refine side_and ?_ ?_
    | refine LoadK_of rfl rfl ?_
    | refine LoadD_cel rfl rfl rfl rfl ?_
    | refine LoadD_of rfl ?_
    | refine StoreD_of rfl rfl rfl ?_
    | refine AppD_of rfl (by and_intros <;> first | rfl | decide) (by simp only [List.length_map, List.length_append, List.length_take, List.length_cons, List.length_nil]; first | (refine ⟨by omega, ?_⟩; refine Nat.le_trans (Nat.mul_le_mul_left _ (show _ ≤ 512 by decide)) ?_; omega) | fail) ?_
    | refine AppN_of rfl rfl (by and_intros <;> rfl) (by simp only [List.length_map, List.length_append, List.length_take, List.length_cons, List.length_nil]; first | (refine ⟨by omega, ?_⟩; refine Nat.le_trans (Nat.mul_le_mul_left _ (show _ ≤ 512 by decide)) ?_; omega) | fail) ?_
    | (show False; omega)
  all_goals
    conv => whnf
    refine OutA_plain rfl rfl ?_
    refine congrArg (AV.int .i64) ?_
    first
    | (have hs := sum_drop LockT.w hx; exact szN_neg (by omega))
    | (have hs := sum_end LockT.w (xs := xs) (k := k) (by omega); exact szN_pos (by omega) (by omega))
    | (have hs : wL LockT.w xs = xs.length + (xs.map LockT.w).sum := rfl; simp only [i64_wrap_eq] at *; exact szN_neg (by omega))
theorem c_laws_toLockS (xs : List LockT) (hw : wL LockT.w xs ≤ 1048576) : PC Try.prog false 9 [.sl (xs.map LockT.cells)] (.own 0) [⟨.deep LockT.shp, 64, 3, xs.map LockT.cells⟩] := by
  have hl : xs.length ≤ 1048576 := Nat.le_trans wL_len hw
  refine pc_at Try.func9 rfl (by kernel_rfl) 23 [.tmp 2] rfl rfl ?_
  repeat' (conv => whnf); first
    | refine nameB_self (b := x.Write) ?_
    | refine nameB_true ?_
    | refine nameB_false ?_
    | refine nameB_yes (by assumption) ?_
    | refine nameB_no (by assumption) ?_
    | refine nameB_dyes (by assumption) ?_
    | refine nameB_dno (by assumption) ?_
    | (refine nameB_dec (fun h => ?_) (fun h => ?_) <;> try simp only [List.length_map, List.length_take, List.length_append, List.length_drop, List.length_set, markList_length, midL_len, mkL_length, Int.toNat_natCast, fact_byte] at h)
    | (refine nameB_cases (fun h => ?_) (fun h => ?_) <;> try simp only [bne_iff_ne, ne_eq, bne_eq_false_iff_eq, beq_iff_eq, beq_eq_false_iff_ne, Bool.not_eq_true', Bool.not_eq_false', Bool.or_eq_true, Bool.or_eq_false_iff, List.length_map, List.length_take, List.length_append, List.length_drop, List.length_set, markList_length, midL_len, mkL_length, Int.toNat_natCast, fact_byte] at h)
    | refine splitB_true ?_
    | refine splitB_false ?_
    | (refine splitB_intro (fun h => ?_) (fun h => ?_) <;> subst h)
    | refine draw_text (by kernel_rfl) (by kernel_rfl) (by kernel_rfl) ?_
    | refine both_intro ?_ ?_
    | refine eitherB_l ?_
    | exact True.intro
    | (show Go.Ab.Loop _ _ _; (refine Loop_prom [(4128, LockT.shp)] ⟨⟨_, _, _, rfl, by first | exact prom_nil | exact prom_rep rfl | exact prom_map (fun _ => rfl) | exact prom_one rfl⟩, trivial⟩ ?_; refine Loop_at [0, 3] [] (Nat) (fun k => True ∧ k ≤ xs.length) (fun k => [(4, .int .i64 (k : Nat))]) (fun k => [(4128, ⟨.deep LockT.shp, 64, 3, (xs.take k).map LockT.cells ++ List.replicate (xs.length - k) [.str [], .int .i64 0, .bool false]⟩)]) (fun k => xs.length - k) 0 ⟨by first | (simp_all <;> fail) | rfl | fail, trivial⟩ ⟨by first | rfl | exact congrArg (fun e => some (AObj.mk _ _ _ e)) (set_rep hx) | exact congrArg (fun e => some (AObj.mk _ _ _ e)) start_rep | fail | fail, trivial⟩ (by (try dsimp only); first | trivial | (refine ⟨?_, by omega⟩; simp <;> fail) | (simp <;> fail) | fail) ?_; (conv => whnf); refine side_and (side_of (by first | exact fun k => rfl | exact fun k => by simp [headOk, closedE, closedO, closedL, AV.closed, hcap.closed, hasId, AObj.box, BK.ofB])) ?_; rintro k hT; try dsimp only at hT))
    | (show Go.Ab.Again _ _ _ _ _ _ _ _ _ _ _; refine Again_of (k + 1) ⟨by first | rfl | exact i64_next (by omega) | (simp_all <;> fail) | fail, trivial⟩ ⟨by first | rfl | exact congrArg (fun e => some (AObj.mk _ _ _ e)) (set_rep hx) | exact congrArg (fun e => some (AObj.mk _ _ _ e)) start_rep | fail | fail, trivial⟩ (by first | (and_intros <;> first | rfl | trivial) | fail) (by first | (and_intros <;> first | rfl | trivial) | fail) rfl rfl rfl (by (try dsimp only); first | (exact ⟨trivial, by omega⟩) | fail) (show _ < _ by (try dsimp only); omega))
    | (show Go.Ab.CallA _ _ _ _ _ _ _; refine Call0 (c_laws_toLock x) rfl rfl ?_)
    | refine ix_map_at hx ?_
    | refine ix_map_at hy ?_
    | refine sl_pre (by omega) (fun _ => rfl) ?_
    | refine sl_suf (by omega) (fun _ => rfl) ?_
    | (refine ix_map2 hx (by omega) (by (try simp only [List.length_take]); omega) (fun y hy => ?_); try simp only [Int.toNat_natCast] at hy)
    | (refine ix_map (by omega) (by (try simp only [List.length_take]); omega) (fun x hx => ?_); try simp only [Int.toNat_natCast] at hx)
    | refine side_and (side_of (by first | (and_intros <;> first | exact Nat.le_of_ble_eq_true rfl | rfl | omega | (simp only [List.length_map, List.length_append, List.length_replicate, List.length_take, List.length_cons, List.length_nil, List.length_drop, List.length_set, markList_length, midL_len, mkL_length]; omega) | exact bytes_ok (Nat.le_of_ble_eq_true rfl) (by omega) (by simp only [List.length_map, List.length_append, List.length_replicate, List.length_take, List.length_cons, List.length_nil, List.length_drop, List.length_set, markList_length, midL_len, mkL_length]; omega) | exact bytes_okN (Nat.le_of_ble_eq_true rfl) (by simp only [List.length_map, List.length_append, List.length_replicate, List.length_take, List.length_cons, List.length_nil, List.length_drop, List.length_set, markList_length, midL_len, mkL_length]; omega)) | fail)) ?_
    | refine nilB_intro (fun h => ?_) ?_
    | refine side_and (side_of (show Go.Ab.structOk _ _ = true by kernel_rfl)) ?_
    | refine side_and (side_of (map_len (fun _ => rfl))) ?_
    | refine side_and (side_of (map_one (fun _ => rfl) _)) ?_
    | refine side_and ?_ ?_
    | refine LoadK_of rfl rfl ?_
    | refine LoadD_cel rfl rfl rfl rfl ?_
    | refine LoadD_of rfl ?_
    | refine StoreD_of rfl rfl rfl ?_
    | refine AppD_of rfl (by and_intros <;> first | rfl | decide) (by simp only [List.length_map, List.length_append, List.length_take, List.length_cons, List.length_nil]; first | (refine ⟨by omega, ?_⟩; refine Nat.le_trans (Nat.mul_le_mul_left _ (show _ ≤ 512 by decide)) ?_; omega) | fail) ?_
    | refine AppN_of rfl rfl (by and_intros <;> rfl) (by simp only [List.length_map, List.length_append, List.length_take, List.length_cons, List.length_nil]; first | (refine ⟨by omega, ?_⟩; refine Nat.le_trans (Nat.mul_le_mul_left _ (show _ ≤ 512 by decide)) ?_; omega) | fail) ?_
    | refine ix_rep (by simp; omega) (by omega) ?_
    | (show False; omega)
  all_goals
    conv => whnf
    exact OutA_deep rfl rfl rfl ⟨⟨congrArg (fun e => some (AObj.mk _ _ _ e)) (full_rep (by omega)), rfl⟩, trivial⟩ rfl
theorem c_laws_toLockS_ro (xs : List LockT) (hw : wL LockT.w xs ≤ 1048576) : PC Try.prog true 9 [.sl (xs.map LockT.cells)] (.sl (xs.map LockT.cells)) [] := by
  have hl : xs.length ≤ 1048576 := Nat.le_trans wL_len hw
  refine pc_at Try.func9 rfl (by kernel_rfl) 23 [.tmp 2] rfl rfl ?_
  repeat' (conv => whnf); first
    | refine nameB_self (b := x.Write) ?_
    | refine nameB_true ?_
    | refine nameB_false ?_
    | refine nameB_yes (by assumption) ?_
    | refine nameB_no (by assumption) ?_
    | refine nameB_dyes (by assumption) ?_
    | refine nameB_dno (by assumption) ?_
    | (refine nameB_dec (fun h => ?_) (fun h => ?_) <;> try simp only [List.length_map, List.length_take, List.length_append, List.length_drop, List.length_set, markList_length, midL_len, mkL_length, Int.toNat_natCast, fact_byte] at h)
    | (refine nameB_cases (fun h => ?_) (fun h => ?_) <;> try simp only [bne_iff_ne, ne_eq, bne_eq_false_iff_eq, beq_iff_eq, beq_eq_false_iff_ne, Bool.not_eq_true', Bool.not_eq_false', Bool.or_eq_true, Bool.or_eq_false_iff, List.length_map, List.length_take, List.length_append, List.length_drop, List.length_set, markList_length, midL_len, mkL_length, Int.toNat_natCast, fact_byte] at h)
    | refine splitB_true ?_
    | refine splitB_false ?_
    | (refine splitB_intro (fun h => ?_) (fun h => ?_) <;> subst h)
    | refine draw_text (by kernel_rfl) (by kernel_rfl) (by kernel_rfl) ?_
    | refine both_intro ?_ ?_
    | refine eitherB_l ?_
    | exact True.intro
    | (show Go.Ab.Loop _ _ _; (refine Loop_prom [(4128, LockT.shp)] ⟨⟨_, _, _, rfl, by first | exact prom_nil | exact prom_rep rfl | exact prom_map (fun _ => rfl) | exact prom_one rfl⟩, trivial⟩ ?_; refine Loop_at [0, 3] [] (Nat) (fun k => True ∧ k ≤ xs.length) (fun k => [(4, .int .i64 (k : Nat))]) (fun k => [(4128, ⟨.deep LockT.shp, 64, 3, (xs.take k).map LockT.cells ++ List.replicate (xs.length - k) [.str [], .int .i64 0, .bool false]⟩)]) (fun k => xs.length - k) 0 ⟨by first | (simp_all <;> fail) | rfl | fail, trivial⟩ ⟨by first | rfl | exact congrArg (fun e => some (AObj.mk _ _ _ e)) (set_rep hx) | exact congrArg (fun e => some (AObj.mk _ _ _ e)) start_rep | fail | fail, trivial⟩ (by (try dsimp only); first | trivial | (refine ⟨?_, by omega⟩; simp <;> fail) | (simp <;> fail) | fail) ?_; (conv => whnf); refine side_and (side_of (by first | exact fun k => rfl | exact fun k => by simp [headOk, closedE, closedO, closedL, AV.closed, hcap.closed, hasId, AObj.box, BK.ofB])) ?_; rintro k hT; try dsimp only at hT))
    | (show Go.Ab.Again _ _ _ _ _ _ _ _ _ _ _; refine Again_of (k + 1) ⟨by first | rfl | exact i64_next (by omega) | (simp_all <;> fail) | fail, trivial⟩ ⟨by first | rfl | exact congrArg (fun e => some (AObj.mk _ _ _ e)) (set_rep hx) | exact congrArg (fun e => some (AObj.mk _ _ _ e)) start_rep | fail | fail, trivial⟩ (by first | (and_intros <;> first | rfl | trivial) | fail) (by first | (and_intros <;> first | rfl | trivial) | fail) rfl rfl rfl (by (try dsimp only); first | (exact ⟨trivial, by omega⟩) | fail) (show _ < _ by (try dsimp only); omega))
    | (show Go.Ab.CallA _ _ _ _ _ _ _; refine Call0 (c_laws_toLock x) rfl rfl ?_)
    | refine ix_map_at hx ?_
    | refine ix_map_at hy ?_
    | refine sl_pre (by omega) (fun _ => rfl) ?_
    | refine sl_suf (by omega) (fun _ => rfl) ?_
    | (refine ix_map2 hx (by omega) (by (try simp only [List.length_take]); omega) (fun y hy => ?_); try simp only [Int.toNat_natCast] at hy)
    | (refine ix_map (by omega) (by (try simp only [List.length_take]); omega) (fun x hx => ?_); try simp only [Int.toNat_natCast] at hx)
    | refine side_and (side_of (by first | (and_intros <;> first | exact Nat.le_of_ble_eq_true rfl | rfl | omega | (simp only [List.length_map, List.length_append, List.length_replicate, List.length_take, List.length_cons, List.length_nil, List.length_drop, List.length_set, markList_length, midL_len, mkL_length]; omega) | exact bytes_ok (Nat.le_of_ble_eq_true rfl) (by omega) (by simp only [List.length_map, List.length_append, List.length_replicate, List.length_take, List.length_cons, List.length_nil, List.length_drop, List.length_set, markList_length, midL_len, mkL_length]; omega) | exact bytes_okN (Nat.le_of_ble_eq_true rfl) (by simp only [List.length_map, List.length_append, List.length_replicate, List.length_take, List.length_cons, List.length_nil, List.length_drop, List.length_set, markList_length, midL_len, mkL_length]; omega)) | fail)) ?_
    | refine nilB_intro (fun h => ?_) ?_
    | refine side_and (side_of (show Go.Ab.structOk _ _ = true by kernel_rfl)) ?_
    | refine side_and (side_of (map_len (fun _ => rfl))) ?_
    | refine side_and (side_of (map_one (fun _ => rfl) _)) ?_
    | refine side_and ?_ ?_
    | refine LoadK_of rfl rfl ?_
    | refine LoadD_cel rfl rfl rfl rfl ?_
    | refine LoadD_of rfl ?_
    | refine StoreD_of rfl rfl rfl ?_
    | refine AppD_of rfl (by and_intros <;> first | rfl | decide) (by simp only [List.length_map, List.length_append, List.length_take, List.length_cons, List.length_nil]; first | (refine ⟨by omega, ?_⟩; refine Nat.le_trans (Nat.mul_le_mul_left _ (show _ ≤ 512 by decide)) ?_; omega) | fail) ?_
    | refine AppN_of rfl rfl (by and_intros <;> rfl) (by simp only [List.length_map, List.length_append, List.length_take, List.length_cons, List.length_nil]; first | (refine ⟨by omega, ?_⟩; refine Nat.le_trans (Nat.mul_le_mul_left _ (show _ ≤ 512 by decide)) ?_; omega) | fail) ?_
    | refine ix_rep (by simp; omega) (by omega) ?_
    | (show False; omega)
  all_goals
    conv => whnf
    refine OutA_frz [4128] ?_
    conv => whnf
    refine OutA_plain rfl rfl ?_
    exact congrArg AV.sl (full_rep (by omega))
theorem c_laws_eqLockS (xs ys : List LockT) (hok : (okL LockT.ok) xs) : PC Try.prog false 11 [.sl (xs.map LockT.cells), .sl (ys.map LockT.cells)] (.bool (decide (xs = ys))) [] := by
  have hl := hok.1
  refine pc_at Try.func11 rfl (by kernel_rfl) 27 [.tmp 4] rfl rfl ?_
  repeat' (conv => whnf); first
    | refine nameB_true ?_
    | refine nameB_false ?_
    | refine nameB_yes (by assumption) ?_
    | refine nameB_no (by assumption) ?_
    | refine nameB_dyes (by assumption) ?_
    | refine nameB_dno (by assumption) ?_
    | (refine nameB_dec (fun h => ?_) (fun h => ?_) <;> try simp only [List.length_map, List.length_take, List.length_append, List.length_drop, List.length_set, markList_length, midL_len, mkL_length, Int.toNat_natCast, fact_byte] at h)
    | (refine nameB_cases (fun h => ?_) (fun h => ?_) <;> try simp only [bne_iff_ne, ne_eq, bne_eq_false_iff_eq, beq_iff_eq, beq_eq_false_iff_ne, Bool.not_eq_true', Bool.not_eq_false', Bool.or_eq_true, Bool.or_eq_false_iff, List.length_map, List.length_take, List.length_append, List.length_drop, List.length_set, markList_length, midL_len, mkL_length, Int.toNat_natCast, fact_byte] at h)
    | refine splitB_true ?_
    | refine splitB_false ?_
    | (refine splitB_intro (fun h => ?_) (fun h => ?_) <;> subst h)
    | refine draw_text (by kernel_rfl) (by kernel_rfl) (by kernel_rfl) ?_
    | refine both_intro ?_ ?_
    | refine eitherB_l ?_
    | exact True.intro
    | (show Go.Ab.Loop _ _ _; (refine Loop_at [0, 1] [] (Nat) (fun k => xs.take k = ys.take k ∧ k ≤ xs.length) (fun k => [(5, .int .i64 (k : Nat))]) (fun k => []) (fun k => xs.length - k) 0 ⟨by first | (simp_all <;> fail) | rfl | fail, trivial⟩ trivial (by (try dsimp only); first | trivial | (refine ⟨?_, by omega⟩; simp <;> fail) | (simp <;> fail) | fail) ?_; (conv => whnf); refine side_and (side_of (by first | exact fun k => rfl | exact fun k => by simp [headOk, closedE, closedO, closedL, AV.closed, hcap.closed, hasId, AObj.box, BK.ofB])) ?_; rintro k hT; try dsimp only at hT))
    | (show Go.Ab.Again _ _ _ _ _ _ _ _ _ _ _; refine Again_of (k + 1) ⟨by first | rfl | exact i64_next (by omega) | (simp_all <;> fail) | fail, trivial⟩ trivial (by first | (and_intros <;> first | rfl | trivial) | fail) (by first | (and_intros <;> first | rfl | trivial) | fail) rfl rfl rfl (by (try dsimp only); first | (exact ⟨take_next hT.1 hx hy (by assumption), by omega⟩) | fail) (show _ < _ by (try dsimp only); omega))
    | (show Go.Ab.CallA _ _ _ _ _ _ _; refine Call0 (c_laws_eqLock x y) rfl rfl ?_)
    | (show Go.Ab.CallD _ _ _ _ _ _ _; refine CallD0 (c_laws_eqLock x y) rfl rfl rfl ?_)
    | refine ix_map_at hx ?_
    | refine ix_map_at hy ?_
    | refine sl_pre (by omega) (fun _ => rfl) ?_
    | refine sl_suf (by omega) (fun _ => rfl) ?_
    | (refine ix_map2 hx (by omega) (by (try simp only [List.length_take]); omega) (fun y hy => ?_); try simp only [Int.toNat_natCast] at hy)
    | (refine ix_map (by omega) (by (try simp only [List.length_take]); omega) (fun x hx => ?_); try simp only [Int.toNat_natCast] at hx)
    | refine side_and (side_of (by first | (and_intros <;> first | exact Nat.le_of_ble_eq_true rfl | rfl | omega | (simp only [List.length_map, List.length_append, List.length_replicate, List.length_take, List.length_cons, List.length_nil, List.length_drop, List.length_set, markList_length, midL_len, mkL_length]; omega) | exact bytes_ok (Nat.le_of_ble_eq_true rfl) (by omega) (by simp only [List.length_map, List.length_append, List.length_replicate, List.length_take, List.length_cons, List.length_nil, List.length_drop, List.length_set, markList_length, midL_len, mkL_length]; omega) | exact bytes_okN (Nat.le_of_ble_eq_true rfl) (by simp only [List.length_map, List.length_append, List.length_replicate, List.length_take, List.length_cons, List.length_nil, List.length_drop, List.length_set, markList_length, midL_len, mkL_length]; omega)) | fail)) ?_
    | refine nilB_intro (fun h => ?_) ?_
    | refine side_and (side_of (show Go.Ab.structOk _ _ = true by kernel_rfl)) ?_
    | refine side_and (side_of (map_len (fun _ => rfl))) ?_
    | refine side_and (side_of (map_one (fun _ => rfl) _)) ?_
    | refine side_and ?_ ?_
    | refine LoadK_of rfl rfl ?_
    | refine LoadD_cel rfl rfl rfl rfl ?_
    | refine LoadD_of rfl ?_
    | refine StoreD_of rfl rfl rfl ?_
    | refine AppD_of rfl (by and_intros <;> first | rfl | decide) (by simp only [List.length_map, List.length_append, List.length_take, List.length_cons, List.length_nil]; first | (refine ⟨by omega, ?_⟩; refine Nat.le_trans (Nat.mul_le_mul_left _ (show _ ≤ 512 by decide)) ?_; omega) | fail) ?_
    | refine AppN_of rfl rfl (by and_intros <;> rfl) (by simp only [List.length_map, List.length_append, List.length_take, List.length_cons, List.length_nil]; first | (refine ⟨by omega, ?_⟩; refine Nat.le_trans (Nat.mul_le_mul_left _ (show _ ≤ 512 by decide)) ?_; omega) | fail) ?_
    | (show False; omega)
  all_goals
    conv => whnf
    refine OutA_plain rfl rfl ?_
    first
    | exact bool_no (len_ne (by omega))
    | exact bool_no (get_ne hx hy (by assumption))
    | exact bool_yes (take_all_eq hT.1 (by omega) (by omega))
theorem m_laws_markLockS (xs : List LockT) (k : Int) (h0 : 0 ≤ k) (h1 : k + (cntL LockT.cnt xs : Int) ≤ 1152921504606846976) (hl : xs.length ≤ 1152921504606846976) : MC Try.prog 12 false [.sl (xs.map LockT.cells)] [.sl 64 3 LockT.shp] k [.sl ((mkL LockT.mkM LockT.cnt xs k).map LockT.cells)] (k + (cntL LockT.cnt xs : Int)) := by
  refine mc_of Try.func12 rfl (by kernel_rfl) 37 [.tmp 4] [.own 0] rfl rfl (fun e => by first | rfl | cases e) rfl rfl ?_
  repeat' (conv => whnf); first
    | refine nameB_self (b := (_ == _)) ?_
    | (show Go.Ab.StoreD _ _ _ 0 _ _ _ _ _; refine StoreD_cut (off := 0) [(0, .own 0), (1, .int .i64 ((k + (cntL LockT.cnt (xs.take i) : Int)))), (5, .int .i64 (i : Nat))] [(0, ⟨.deep LockT.shp, 64, 3, (((midL LockT.mkM LockT.cnt xs k i).map LockT.cells).set i [.str (mText ((k + (cntL LockT.cnt (xs.take i) : Int)))), .int .i64 x.Txn, .bool x.Write])⟩)] rfl rfl ⟨rfl, (by first | rfl | exact congrArg (AV.int IntKind.i64) (by first | (have hle := cntL_le (cnt := LockT.cnt) hx; have hcx : LockT.cnt x = 1 + 1 + 1 := rfl; first | (simp (disch := omega) only [i64w] <;> fail) | (simp (disch := omega) only [i64w]; omega)) | fail) | fail), rfl, trivial⟩ rfl ⟨congrArg (fun l => some (AObj.mk _ _ _ l)) (by first | (have hle := cntL_le (cnt := LockT.cnt) hx; have hcx : LockT.cnt x = 1 + 1 + 1 := rfl; (try simp only [List.set_set, Int.toNat_natCast]); refine congrArg (List.set _ _) ?_; ((repeat' refine cells_eq ?_ ?_) <;> first | rfl | (refine congrArg (AV.int IntKind.i64) ?_; simp (disch := omega) only [i64w]; first | done | rfl) | (refine congrArg AV.str (congrArg mText ?_); simp (disch := omega) only [i64w]; first | done | rfl) | (refine congrArg AV.bool ?_; simp (disch := omega) only [i64w]; first | done | rfl) | (refine congrArg AV.sl ?_; simp (disch := omega) only [i64w]; first | done | rfl))) | fail), trivial⟩ rfl rfl ⟨rfl, by simp⟩ ?_)
    | (show Go.Ab.StoreD _ _ _ 1 _ _ _ _ _; refine StoreD_cut (off := 1) [(0, .own 0), (1, .int .i64 ((k + (cntL LockT.cnt (xs.take i) : Int)) + 1)), (5, .int .i64 (i : Nat))] [(0, ⟨.deep LockT.shp, 64, 3, (((midL LockT.mkM LockT.cnt xs k i).map LockT.cells).set i [.str (mText ((k + (cntL LockT.cnt (xs.take i) : Int)))), .int .i64 ((k + (cntL LockT.cnt (xs.take i) : Int)) + 1), .bool x.Write])⟩)] rfl rfl ⟨rfl, (by first | rfl | exact congrArg (AV.int IntKind.i64) (by first | (have hle := cntL_le (cnt := LockT.cnt) hx; have hcx : LockT.cnt x = 1 + 1 + 1 := rfl; first | (simp (disch := omega) only [i64w] <;> fail) | (simp (disch := omega) only [i64w]; omega)) | fail) | fail), rfl, trivial⟩ rfl ⟨congrArg (fun l => some (AObj.mk _ _ _ l)) (by first | (have hle := cntL_le (cnt := LockT.cnt) hx; have hcx : LockT.cnt x = 1 + 1 + 1 := rfl; (try simp only [List.set_set, Int.toNat_natCast]); refine congrArg (List.set _ _) ?_; ((repeat' refine cells_eq ?_ ?_) <;> first | rfl | (refine congrArg (AV.int IntKind.i64) ?_; simp (disch := omega) only [i64w]; first | done | rfl) | (refine congrArg AV.str (congrArg mText ?_); simp (disch := omega) only [i64w]; first | done | rfl) | (refine congrArg AV.bool ?_; simp (disch := omega) only [i64w]; first | done | rfl) | (refine congrArg AV.sl ?_; simp (disch := omega) only [i64w]; first | done | rfl))) | fail), trivial⟩ rfl rfl ⟨rfl, by simp⟩ ?_)
    | (show Go.Ab.StoreD _ _ _ 2 _ _ _ _ _; refine StoreD_cut (off := 2) [(0, .own 0), (1, .int .i64 ((k + (cntL LockT.cnt (xs.take i) : Int)) + 1 + 1)), (5, .int .i64 (i : Nat))] [(0, ⟨.deep LockT.shp, 64, 3, (((midL LockT.mkM LockT.cnt xs k i).map LockT.cells).set i [.str (mText ((k + (cntL LockT.cnt (xs.take i) : Int)))), .int .i64 ((k + (cntL LockT.cnt (xs.take i) : Int)) + 1), .bool (((k + (cntL LockT.cnt (xs.take i) : Int)) + 1 + 1).tmod 3 == 0)])⟩)] rfl rfl ⟨rfl, (by first | rfl | exact congrArg (AV.int IntKind.i64) (by first | (have hle := cntL_le (cnt := LockT.cnt) hx; have hcx : LockT.cnt x = 1 + 1 + 1 := rfl; first | (simp (disch := omega) only [i64w] <;> fail) | (simp (disch := omega) only [i64w]; omega)) | fail) | fail), rfl, trivial⟩ rfl ⟨congrArg (fun l => some (AObj.mk _ _ _ l)) (by first | (have hle := cntL_le (cnt := LockT.cnt) hx; have hcx : LockT.cnt x = 1 + 1 + 1 := rfl; (try simp only [List.set_set, Int.toNat_natCast]); refine congrArg (List.set _ _) ?_; ((repeat' refine cells_eq ?_ ?_) <;> first | rfl | (refine congrArg (AV.int IntKind.i64) ?_; simp (disch := omega) only [i64w]; first | done | rfl) | (refine congrArg AV.str (congrArg mText ?_); simp (disch := omega) only [i64w]; first | done | rfl) | (refine congrArg AV.bool ?_; simp (disch := omega) only [i64w]; first | done | rfl) | (refine congrArg AV.sl ?_; simp (disch := omega) only [i64w]; first | done | rfl))) | fail), trivial⟩ rfl rfl ⟨rfl, by simp⟩ ?_)
    | refine nameB_true ?_
    | refine nameB_false ?_
    | refine nameB_yes (by assumption) ?_
    | refine nameB_no (by assumption) ?_
    | refine nameB_dyes (by assumption) ?_
    | refine nameB_dno (by assumption) ?_
    | (refine nameB_dec (fun h => ?_) (fun h => ?_) <;> try simp only [List.length_map, List.length_take, List.length_append, List.length_drop, List.length_set, markList_length, midL_len, mkL_length, Int.toNat_natCast, fact_byte] at h)
    | (refine nameB_cases (fun h => ?_) (fun h => ?_) <;> try simp only [bne_iff_ne, ne_eq, bne_eq_false_iff_eq, beq_iff_eq, beq_eq_false_iff_ne, Bool.not_eq_true', Bool.not_eq_false', Bool.or_eq_true, Bool.or_eq_false_iff, List.length_map, List.length_take, List.length_append, List.length_drop, List.length_set, markList_length, midL_len, mkL_length, Int.toNat_natCast, fact_byte] at h)
    | refine splitB_true ?_
    | refine splitB_false ?_
    | (refine splitB_intro (fun h => ?_) (fun h => ?_) <;> subst h)
    | refine draw_text (by kernel_rfl) (by kernel_rfl) (by kernel_rfl) ?_
    | refine both_intro ?_ ?_
    | refine eitherB_l ?_
    | exact True.intro
    | (show Go.Ab.Loop _ _ _; (refine Loop_at [0] [] (Nat) (fun i => i ≤ xs.length) (fun i => [(1, .int .i64 (k + (cntL LockT.cnt (xs.take i) : Int))), (5, .int .i64 (i : Nat))]) (fun i => [(0, ⟨.deep LockT.shp, 64, 3, (midL LockT.mkM LockT.cnt xs k i).map LockT.cells⟩)]) (fun i => xs.length - i) 0 ⟨by first | first | exact cnt0_eq | exact congrArg (AV.int IntKind.i64) (by first | (have hle := cntL_le (cnt := LockT.cnt) hx; have hcx : LockT.cnt x = 1 + 1 + 1 := rfl; rw [cntL_take hx]; (try simp (disch := omega) only [i64w]); omega) | fail) | rfl | fail, by first | first | exact cnt0_eq | exact congrArg (AV.int IntKind.i64) (by first | (have hle := cntL_le (cnt := LockT.cnt) hx; have hcx : LockT.cnt x = 1 + 1 + 1 := rfl; rw [cntL_take hx]; (try simp (disch := omega) only [i64w]); omega) | fail) | rfl | fail, trivial⟩ ⟨by first | rfl | first | exact congrArg (fun e => some (AObj.mk _ _ _ e)) (congrArg (List.map LockT.cells) midL_zero.symm) | exact congrArg (fun e => some (AObj.mk _ _ _ e)) (by first | (refine midL_next hx ?_; rfl) | fail) | fail | fail, trivial⟩ (by (try dsimp only); first | (exact Nat.zero_le _) | fail) ?_; (conv => whnf); refine side_and (side_of (by first | exact fun i => rfl | exact fun i => by simp [headOk, closedE, closedO, closedL, AV.closed, hcap.closed, hasId, AObj.box, BK.ofB])) ?_; rintro i hM; try dsimp only at hM))
    | (show Go.Ab.Again _ _ _ _ _ _ _ _ _ _ _; refine Again_of (i + 1) ⟨by first | first | exact cnt0_eq | exact congrArg (AV.int IntKind.i64) (by first | (have hle := cntL_le (cnt := LockT.cnt) hx; have hcx : LockT.cnt x = 1 + 1 + 1 := rfl; rw [cntL_take hx]; (try simp (disch := omega) only [i64w]); omega) | fail) | rfl | fail, by first | rfl | exact i64_next (by omega) | first | exact cnt0_eq | exact congrArg (AV.int IntKind.i64) (by first | (have hle := cntL_le (cnt := LockT.cnt) hx; have hcx : LockT.cnt x = 1 + 1 + 1 := rfl; rw [cntL_take hx]; (try simp (disch := omega) only [i64w]); omega) | fail) | fail, trivial⟩ ⟨by first | rfl | first | exact congrArg (fun e => some (AObj.mk _ _ _ e)) (congrArg (List.map LockT.cells) midL_zero.symm) | exact congrArg (fun e => some (AObj.mk _ _ _ e)) (by first | (refine midL_next hx ?_; rfl) | fail) | fail | fail, trivial⟩ (by first | (and_intros <;> first | rfl | trivial) | fail) (by first | (and_intros <;> first | rfl | trivial) | fail) rfl rfl rfl (by (try dsimp only); first | ((show i + 1 ≤ _; omega)) | fail) (show _ < _ by (try dsimp only); omega))
    | (show Go.Ab.CallA _ _ _ _ _ _ _; refine Call0 (c_laws_markText _ (by first | (obtain ⟨x, hx⟩ := get_lt (xs := xs) (i := i) (by omega); have hle := cntL_le (cnt := LockT.cnt) hx; have hcx : LockT.cnt x = 1 + 1 + 1 := rfl; first | omega | (simp (disch := omega) only [i64w]; omega)) | fail)) rfl rfl ?_)
    | refine ix_map_at hx ?_
    | refine ix_map_at hy ?_
    | refine sl_pre (by omega) (fun _ => rfl) ?_
    | refine sl_suf (by omega) (fun _ => rfl) ?_
    | (refine ix_map2 hx (by omega) (by (try simp only [List.length_take]); omega) (fun y hy => ?_); try simp only [Int.toNat_natCast] at hy)
    | (refine ix_map (by omega) (by (try simp only [List.length_take]); omega) (fun x hx => ?_); try simp only [Int.toNat_natCast] at hx)
    | refine side_and (side_of (by first | (and_intros <;> first | exact Nat.le_of_ble_eq_true rfl | rfl | omega | (simp only [List.length_map, List.length_append, List.length_replicate, List.length_take, List.length_cons, List.length_nil, List.length_drop, List.length_set, markList_length, midL_len, mkL_length]; omega) | exact bytes_ok (Nat.le_of_ble_eq_true rfl) (by omega) (by simp only [List.length_map, List.length_append, List.length_replicate, List.length_take, List.length_cons, List.length_nil, List.length_drop, List.length_set, markList_length, midL_len, mkL_length]; omega) | exact bytes_okN (Nat.le_of_ble_eq_true rfl) (by simp only [List.length_map, List.length_append, List.length_replicate, List.length_take, List.length_cons, List.length_nil, List.length_drop, List.length_set, markList_length, midL_len, mkL_length]; omega)) | fail)) ?_
    | refine nilB_intro (fun h => ?_) ?_
    | refine side_and (side_of (show Go.Ab.structOk _ _ = true by kernel_rfl)) ?_
    | refine side_and (side_of (map_len (fun _ => rfl))) ?_
    | refine side_and (side_of (map_one (fun _ => rfl) _)) ?_
    | refine side_and ?_ ?_
    | refine LoadK_of rfl rfl ?_
    | refine LoadD_cel rfl rfl rfl rfl ?_
    | refine LoadD_of rfl ?_
    | refine StoreD_of rfl rfl rfl ?_
    | refine AppD_of rfl (by and_intros <;> first | rfl | decide) (by simp only [List.length_map, List.length_append, List.length_take, List.length_cons, List.length_nil]; first | (refine ⟨by omega, ?_⟩; refine Nat.le_trans (Nat.mul_le_mul_left _ (show _ ≤ 512 by decide)) ?_; omega) | fail) ?_
    | refine AppN_of rfl rfl (by and_intros <;> rfl) (by simp only [List.length_map, List.length_append, List.length_take, List.length_cons, List.length_nil]; first | (refine ⟨by omega, ?_⟩; refine Nat.le_trans (Nat.mul_le_mul_left _ (show _ ≤ 512 by decide)) ?_; omega) | fail) ?_
    | refine ix_setN (by simp only [List.length_set, List.length_map, midL_len]; omega) ?_
    | refine ix_mid (by omega) (fun x hx => ?_)
    | (show False; omega)
  all_goals
    conv => whnf
    refine OutM_of (by rfl) (by rfl) (by rfl) ?_ ?_
    · exact congrArg (fun n : Nat => AV.int .i64 (k + (n : Int))) (cntL_end (by omega))
    · exact congrArg (fun l => [AV.sl (List.map LockT.cells l)]) (midL_end (by omega))
theorem c_laws_heldLockS (xs : List LockT) (k : Int) (h0 : 0 ≤ k) (h1 : k + (cntL LockT.cnt xs : Int) ≤ 1152921504606846976) (hl : xs.length ≤ 1152921504606846976) : PC Try.prog false 13 [.sl ((mkL LockT.mkM LockT.cnt xs k).map LockT.cells), .int .i64 k] (.int .i64 (k + (cntL LockT.cnt xs : Int))) [] := by
  refine pc_at Try.func13 rfl (by kernel_rfl) 43 [.tmp 4] rfl rfl ?_
  repeat' (conv => whnf); first
    | refine ix_mk_at hx ?_
    | refine ix_mk (i := i) rfl (by omega) (fun x hx => ?_)
    | refine nameB_no (by first | (have hle := cntL_le (cnt := LockT.cnt) hx; have hcx : LockT.cnt x = 1 + 1 + 1 := rfl; simp (disch := omega) only [i64w, bne_self_eq_false, beq_self_eq_true, Bool.not_true] <;> fail) | fail) ?_
    | refine nameB_no (held_no (by first | (have hle := cntL_le (cnt := LockT.cnt) hx; have hcx : LockT.cnt x = 1 + 1 + 1 := rfl; first | rfl | (simp (disch := omega) only [i64w] <;> fail) | (simp (disch := omega) only [i64w]; rfl)) | fail)) ?_
    | refine nameB_no (heldB_no (by first | (have hle := cntL_le (cnt := LockT.cnt) hx; have hcx : LockT.cnt x = 1 + 1 + 1 := rfl; first | rfl | (simp (disch := omega) only [i64w] <;> fail) | (simp (disch := omega) only [i64w]; rfl)) | fail)) ?_
    | refine nameB_self (b := (_ == _)) ?_
    | refine nameB_true ?_
    | refine nameB_false ?_
    | refine nameB_yes (by assumption) ?_
    | refine nameB_no (by assumption) ?_
    | refine nameB_dyes (by assumption) ?_
    | refine nameB_dno (by assumption) ?_
    | (refine nameB_dec (fun h => ?_) (fun h => ?_) <;> try simp only [List.length_map, List.length_take, List.length_append, List.length_drop, List.length_set, markList_length, midL_len, mkL_length, Int.toNat_natCast, fact_byte] at h)
    | (refine nameB_cases (fun h => ?_) (fun h => ?_) <;> try simp only [bne_iff_ne, ne_eq, bne_eq_false_iff_eq, beq_iff_eq, beq_eq_false_iff_ne, Bool.not_eq_true', Bool.not_eq_false', Bool.or_eq_true, Bool.or_eq_false_iff, List.length_map, List.length_take, List.length_append, List.length_drop, List.length_set, markList_length, midL_len, mkL_length, Int.toNat_natCast, fact_byte] at h)
    | refine splitB_true ?_
    | refine splitB_false ?_
    | (refine splitB_intro (fun h => ?_) (fun h => ?_) <;> subst h)
    | refine draw_text (by kernel_rfl) (by kernel_rfl) (by kernel_rfl) ?_
    | refine both_intro ?_ ?_
    | refine eitherB_l ?_
    | exact True.intro
    | (show Go.Ab.Loop _ _ _; (refine Loop_at [0] [] (Nat) (fun i => i ≤ xs.length) (fun i => [(1, .int .i64 (k + (cntL LockT.cnt (xs.take i) : Int))), (5, .int .i64 (i : Nat))]) (fun i => []) (fun i => xs.length - i) 0 ⟨by first | first | exact cnt0_eq | exact congrArg (AV.int IntKind.i64) (by first | (have hle := cntL_le (cnt := LockT.cnt) hx; have hcx : LockT.cnt x = 1 + 1 + 1 := rfl; rw [cntL_take hx]; (try simp (disch := omega) only [i64w]); omega) | fail) | rfl | fail, by first | first | exact cnt0_eq | exact congrArg (AV.int IntKind.i64) (by first | (have hle := cntL_le (cnt := LockT.cnt) hx; have hcx : LockT.cnt x = 1 + 1 + 1 := rfl; rw [cntL_take hx]; (try simp (disch := omega) only [i64w]); omega) | fail) | rfl | fail, trivial⟩ trivial (by (try dsimp only); first | (exact Nat.zero_le _) | fail) ?_; (conv => whnf); refine side_and (side_of (by first | exact fun i => rfl | exact fun i => by simp [headOk, closedE, closedO, closedL, AV.closed, hcap.closed, hasId, AObj.box, BK.ofB])) ?_; rintro i hM; try dsimp only at hM))
    | (show Go.Ab.Again _ _ _ _ _ _ _ _ _ _ _; refine Again_of (i + 1) ⟨by first | first | exact cnt0_eq | exact congrArg (AV.int IntKind.i64) (by first | (have hle := cntL_le (cnt := LockT.cnt) hx; have hcx : LockT.cnt x = 1 + 1 + 1 := rfl; rw [cntL_take hx]; (try simp (disch := omega) only [i64w]); omega) | fail) | rfl | fail, by first | rfl | exact i64_next (by omega) | first | exact cnt0_eq | exact congrArg (AV.int IntKind.i64) (by first | (have hle := cntL_le (cnt := LockT.cnt) hx; have hcx : LockT.cnt x = 1 + 1 + 1 := rfl; rw [cntL_take hx]; (try simp (disch := omega) only [i64w]); omega) | fail) | fail, trivial⟩ trivial (by first | (and_intros <;> first | rfl | trivial) | fail) (by first | (and_intros <;> first | rfl | trivial) | fail) rfl rfl rfl (by (try dsimp only); first | ((show i + 1 ≤ _; omega)) | fail) (show _ < _ by (try dsimp only); omega))
    | (show Go.Ab.CallA _ _ _ _ _ _ _; refine Call0 (c_laws_markText _ (by first | (have hle := cntL_le (cnt := LockT.cnt) hx; have hcx : LockT.cnt x = 1 + 1 + 1 := rfl; first | omega | (simp (disch := omega) only [i64w]; omega)) | fail)) rfl rfl ?_)
    | (show Go.Ab.CallD _ _ _ _ _ _ _; refine CallD0 (c_laws_markText _ (by first | (have hle := cntL_le (cnt := LockT.cnt) hx; have hcx : LockT.cnt x = 1 + 1 + 1 := rfl; first | omega | (simp (disch := omega) only [i64w]; omega)) | fail)) rfl rfl rfl ?_)
    | refine ix_map_at hx ?_
    | refine ix_map_at hy ?_
    | refine sl_pre (by omega) (fun _ => rfl) ?_
    | refine sl_suf (by omega) (fun _ => rfl) ?_
    | (refine ix_map2 hx (by omega) (by (try simp only [List.length_take]); omega) (fun y hy => ?_); try simp only [Int.toNat_natCast] at hy)
    | (refine ix_map (by omega) (by (try simp only [List.length_take]); omega) (fun x hx => ?_); try simp only [Int.toNat_natCast] at hx)
    | refine side_and (side_of (by first | (and_intros <;> first | exact Nat.le_of_ble_eq_true rfl | rfl | omega | (simp only [List.length_map, List.length_append, List.length_replicate, List.length_take, List.length_cons, List.length_nil, List.length_drop, List.length_set, markList_length, midL_len, mkL_length]; omega) | exact bytes_ok (Nat.le_of_ble_eq_true rfl) (by omega) (by simp only [List.length_map, List.length_append, List.length_replicate, List.length_take, List.length_cons, List.length_nil, List.length_drop, List.length_set, markList_length, midL_len, mkL_length]; omega) | exact bytes_okN (Nat.le_of_ble_eq_true rfl) (by simp only [List.length_map, List.length_append, List.length_replicate, List.length_take, List.length_cons, List.length_nil, List.length_drop, List.length_set, markList_length, midL_len, mkL_length]; omega)) | fail)) ?_
    | refine nilB_intro (fun h => ?_) ?_
    | refine side_and (side_of (show Go.Ab.structOk _ _ = true by kernel_rfl)) ?_
    | refine side_and (side_of (map_len (fun _ => rfl))) ?_
    | refine side_and (side_of (map_one (fun _ => rfl) _)) ?_
    | refine side_and ?_ ?_
    | refine LoadK_of rfl rfl ?_
    | refine LoadD_cel rfl rfl rfl rfl ?_
    | refine LoadD_of rfl ?_
    | refine StoreD_of rfl rfl rfl ?_
    | refine AppD_of rfl (by and_intros <;> first | rfl | decide) (by simp only [List.length_map, List.length_append, List.length_take, List.length_cons, List.length_nil]; first | (refine ⟨by omega, ?_⟩; refine Nat.le_trans (Nat.mul_le_mul_left _ (show _ ≤ 512 by decide)) ?_; omega) | fail) ?_
    | refine AppN_of rfl rfl (by and_intros <;> rfl) (by simp only [List.length_map, List.length_append, List.length_take, List.length_cons, List.length_nil]; first | (refine ⟨by omega, ?_⟩; refine Nat.le_trans (Nat.mul_le_mul_left _ (show _ ≤ 512 by decide)) ?_; omega) | fail) ?_
    | (show False; omega)
  all_goals
    conv => whnf
    refine OutA_plain rfl rfl ?_
    first
    | exact congrArg (fun n : Nat => AV.int .i64 (k + (n : Int))) (cntL_end (by omega))
    | (exfalso; omega)
structure LetterT where
  From : Int
  To : Int
  Due : Int
  Body : List UInt8
deriving DecidableEq
def LetterT.cells (x : LetterT) : List AV := [.int .i64 x.From, .int .i64 x.To, .int .i64 x.Due, .str x.Body]
def LetterT.ok (x : LetterT) : Prop := okT x.From ∧ okT x.To ∧ okT x.Due ∧ okS x.Body
def LetterT.w (x : LetterT) : Nat := x.Body.length
theorem LetterT.same {x y : LetterT} (hFrom : x.From = y.From) (hTo : x.To = y.To) (hDue : x.Due = y.Due) (hBody : x.Body = y.Body) : x = y := by cases x; cases y; simp_all
def LetterT.shp : List Shp := [.leaf, .leaf, .leaf, .leaf]
def LetterT.mkM (x : LetterT) (k : Int) : LetterT := ⟨k, k + 1, k + 1 + 1, mText (k + 1 + 1 + 1)⟩
def LetterT.cnt (x : LetterT) : Nat := 1 + 1 + 1 + 1
theorem cntL_len_Letter (xs : List LetterT) : xs.length ≤ cntL LetterT.cnt xs := by
  induction xs with
  | nil => exact Nat.zero_le _
  | cons x xs ih =>
    simp only [cntL, List.map_cons, List.sum_cons, List.length_cons] at ih ⊢
    have hcx : LetterT.cnt x = 1 + 1 + 1 + 1 := rfl
    omega
theorem LetterT.cnt_w (x : LetterT) : LetterT.cnt x ≤ 100 * (1 + LetterT.w x) := by
  simp only [LetterT.cnt, LetterT.w] at *
  omega
structure NetT where
  Now : Int
  Homes : List Int
  Far : Int
  Under : List LetterT
deriving DecidableEq
def NetT.cells (x : NetT) : List AV := [.int .i64 x.Now, .sl (x.Homes.map intC), .int .i64 x.Far, .sl (x.Under.map LetterT.cells)]
def NetT.ok (x : NetT) : Prop := okT x.Now ∧ (okL okT) x.Homes ∧ okT x.Far ∧ (okL LetterT.ok) x.Under
def NetT.w (x : NetT) : Nat := x.Homes.length + wL LetterT.w x.Under
theorem NetT.same {x y : NetT} (hNow : x.Now = y.Now) (hHomes : x.Homes = y.Homes) (hFar : x.Far = y.Far) (hUnder : x.Under = y.Under) : x = y := by cases x; cases y; simp_all
def NetT.shp : List Shp := [.leaf, .sl 3 1 [.leaf], .leaf, .sl 79 4 LetterT.shp]
def NetT.mkM (x : NetT) (k : Int) : NetT := ⟨k, mkL mkInt cnt1 x.Homes (k + 1), k + 1 + (cntL cnt1 x.Homes : Int), mkL LetterT.mkM LetterT.cnt x.Under (k + 1 + (cntL cnt1 x.Homes : Int) + 1)⟩
def NetT.cnt (x : NetT) : Nat := 1 + cntL cnt1 x.Homes + 1 + cntL LetterT.cnt x.Under
theorem cntL_len_Net (xs : List NetT) : xs.length ≤ cntL NetT.cnt xs := by
  induction xs with
  | nil => exact Nat.zero_le _
  | cons x xs ih =>
    simp only [cntL, List.map_cons, List.sum_cons, List.length_cons] at ih ⊢
    have hcx : NetT.cnt x = 1 + cntL cnt1 x.Homes + 1 + cntL LetterT.cnt x.Under := rfl
    omega
def NetT.mkS (x : NetT) (k : Int) : NetT := ⟨x.Now, mkL mkInt cnt1 x.Homes k, x.Far, mkL LetterT.mkM LetterT.cnt x.Under (k + (cntL cnt1 x.Homes : Int))⟩
def NetT.cntS (x : NetT) (k : Int) : Int := k + (cntL cnt1 x.Homes : Int) + (cntL LetterT.cnt x.Under : Int)
theorem NetT.cnt_w (x : NetT) : NetT.cnt x ≤ 100 * (1 + NetT.w x) := by
  have h0 := cntL_l100 (cnt := cnt1) (fun _ => one_l100) x.Homes
  have h1 := cntL_w100 (cnt := LetterT.cnt) (w := LetterT.w) (fun y => LetterT.cnt_w y) x.Under
  simp only [NetT.cnt, NetT.w] at *
  omega
theorem NetT.cntS_w (x : NetT) (k : Int) : NetT.cntS x k ≤ k + 100 * (1 + (NetT.w x : Int)) := by
  have h0 := cntL_l100 (cnt := cnt1) (fun _ => one_l100) x.Homes
  have h1 := cntL_w100 (cnt := LetterT.cnt) (w := LetterT.w) (fun y => LetterT.cnt_w y) x.Under
  simp only [NetT.cntS, NetT.cnt, NetT.w] at *
  omega
end Go.Proofs.Ytkalobhgonaibaa
