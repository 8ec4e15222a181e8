/-
  What the readers' functions give.
  No condition.
-/
import Derived.Test.YtfpkfnfgloonhaaGreatRead1
namespace Go.Proofs.YtfpkfnfgloonhaaGreat
open Go.Ab
set_option linter.unusedSimpArgs false
set_option maxRecDepth 20000
set_option maxHeartbeats 4000000
set_option linter.unusedVariables false

def bnd9 : Nat → Int
  | 0 => 1000000000
  | 1 => 7812500
  | 2 => 61035
  | 3 => 476
  | 4 => 3
  | _ => 0
theorem bnd9_next {k : Nat} {n : Int} (h : n ≤ bnd9 k) (hn : n ≥ 128) : n.tdiv 128 ≤ bnd9 (k + 1) ∧ k ≤ 3 := by
  rw [Int.tdiv_eq_ediv_of_nonneg (by omega)]
  match k with
  | 0 => simp only [bnd9] at h ⊢; omega
  | 1 => simp only [bnd9] at h ⊢; omega
  | 2 => simp only [bnd9] at h ⊢; omega
  | 3 => simp only [bnd9] at h ⊢; omega
  | 4 => simp only [bnd9] at h; omega
  | k + 5 => simp only [bnd9] at h; omega
theorem bnd9_le {k : Nat} : bnd9 k ≤ 1000000000 := by
  match k with
  | 0 => simp [bnd9]
  | 1 => simp [bnd9]
  | 2 => simp [bnd9]
  | 3 => simp [bnd9]
  | 4 => simp [bnd9]
  | k + 5 => simp [bnd9]
theorem numB_go {out B : List UInt8} {n : Int} (h : out ++ numB n = B) (hn : n ≥ 128) : (out ++ [byt (n % 128 + 128)]) ++ numB (n.tdiv 128) = B := by
  rw [numB_ge hn] at h
  rw [List.append_assoc]
  exact h
theorem numB_fin {out B : List UInt8} {n : Int} (h : out ++ numB n = B) (hn : ¬ n ≥ 128) : out ++ [byt n] = B := by
  rw [numB_lt hn] at h
  exact h
theorem c_impl_numBytes9 (n0 : Int) (h0 : 0 ≤ n0) (h1 : n0 ≤ 1000000000) : PC Tryz.prog false 153 [.int .i64 n0] (.str (numB n0)) [] := by
  refine pc_at Tryz.func153 rfl (by kernel_rfl) 22 [.tmp 2] rfl rfl ?_
  repeat' (conv => whnf); first
    | refine side_and (side_of (one_lenC rfl rfl)) ?_
    | refine side_and (side_of (by first | (and_intros <;> first | exact Nat.le_of_ble_eq_true rfl | rfl | (intro e; exact absurd (AV.own.inj e) (by decide)) | (intro e; exact AV.noConfusion e)) | fail)) ?_
    | refine side_and (side_of (app_boundC (L := out.map bC) rfl (by (try simp only [List.length_map, List.length_append, List.length_take, List.length_set, List.length_drop]); omega) (Nat.le_of_ble_eq_true rfl))) ?_
    | refine nameB_true ?_
    | refine nameB_false ?_
    | refine nameB_yes (by assumption) ?_
    | refine nameB_no (by assumption) ?_
    | refine nameB_dyes (by assumption) ?_
    | refine nameB_dno (by assumption) ?_
    | (refine nameB_dec (fun h => ?_) (fun h => ?_) <;> try simp only [lensB, midL_len, mkL_length, Int.toNat_natCast, fact_byte] at h)
    | (refine nameB_cases (fun h => ?_) (fun h => ?_) <;> try simp only [bne_iff_ne, ne_eq, bne_eq_false_iff_eq, beq_iff_eq, beq_eq_false_iff_ne, Bool.not_eq_true', Bool.not_eq_false', Bool.or_eq_true, Bool.or_eq_false_iff, lensB, midL_len, mkL_length, Int.toNat_natCast, fact_byte] at h)
    | refine splitB_true ?_
    | refine splitB_false ?_
    | (refine splitB_intro (fun h => ?_) (fun h => ?_) <;> subst h)
    | refine draw_text (by kernel_rfl) (by kernel_rfl) (by kernel_rfl) ?_
    | refine both_intro ?_ ?_
    | refine eitherB_l ?_
    | exact True.intro
    | (show Go.Ab.Loop _ _ _; (refine Loop_nil 3 1 5 1 rfl rfl (by decide) ?_; refine Loop_at [] [] (Int × List UInt8) (fun j => match j with | (n, out) => 0 ≤ n ∧ out ++ numB n = numB n0 ∧ n ≤ bnd9 out.length ∧ out.length ≤ 5) (fun j => match j with | (n, out) => [(0, .int .i64 n), (3, .own 1)]) (fun j => match j with | (n, out) => [(1, ⟨false, 5, 1, out.map bC⟩)]) (fun j => match j with | (n, out) => n.toNat) (n0, []) ⟨by first | first | rfl | exact congrArg (AV.int .i64) (i64_wrap (by have ht := tdiv_128 (n := n) (by assumption); omega) (by have hb := bnd9_next hT.2.2.1 (by assumption); have hb2 := bnd9_le (k := out.length + 1); omega)) | rfl | fail, by first | rfl | first | rfl | exact congrArg (AV.int .i64) (i64_wrap (by have ht := tdiv_128 (n := n) (by assumption); omega) (by have hb := bnd9_next hT.2.2.1 (by assumption); have hb2 := bnd9_le (k := out.length + 1); omega)) | fail, trivial⟩ ⟨by first | rfl | first | exact congrArg (fun e => some (AObj.mk _ _ _ e)) (bapp (congrArg (fun x => [[AV.int .u8 x]]) (b1 hT.1))) | exact congrArg (fun e => some (AObj.mk _ _ _ e)) (bapp (congrArg (fun x => [[AV.int .u8 x]]) (b2 hT.1))) | fail | fail, trivial⟩ (by (try dsimp only); first | (exact ⟨h0, rfl, h1, Nat.zero_le _⟩) | fail) ?_; (conv => whnf); refine side_and (side_of (by first | exact fun ⟨n, out⟩ => rfl | exact fun ⟨n, out⟩ => by simp [headOk, closedE, closedO, closedL, AV.closed, hcap.closed, hasId, AObj.box, BK.ofB])) ?_; rintro ⟨n, out⟩ hT; try dsimp only at hT))
    | (show Go.Ab.Again _ _ _ _ _ _ _ _ _ _ _; refine Again_of (n.tdiv 128, out ++ [byt (n % 128 + 128)]) ⟨by first | first | rfl | exact congrArg (AV.int .i64) (i64_wrap (by have ht := tdiv_128 (n := n) (by assumption); omega) (by have hb := bnd9_next hT.2.2.1 (by assumption); have hb2 := bnd9_le (k := out.length + 1); omega)) | rfl | fail, by first | rfl | first | rfl | exact congrArg (AV.int .i64) (i64_wrap (by have ht := tdiv_128 (n := n) (by assumption); omega) (by have hb := bnd9_next hT.2.2.1 (by assumption); have hb2 := bnd9_le (k := out.length + 1); omega)) | fail, trivial⟩ ⟨by first | rfl | first | exact congrArg (fun e => some (AObj.mk _ _ _ e)) (bapp (congrArg (fun x => [[AV.int .u8 x]]) (b1 hT.1))) | exact congrArg (fun e => some (AObj.mk _ _ _ e)) (bapp (congrArg (fun x => [[AV.int .u8 x]]) (b2 hT.1))) | fail | fail, trivial⟩ (by first | (and_intros <;> first | rfl | trivial) | fail) (by first | (and_intros <;> first | rfl | trivial) | fail) rfl rfl rfl (by (try dsimp only); first | ((have ht := tdiv_128 (n := n) (by assumption); have hb := bnd9_next hT.2.2.1 (by assumption); exact ⟨ht.1, numB_go hT.2.1 (by assumption), by rw [List.length_append]; exact hb.1, by rw [List.length_append]; show out.length + 1 ≤ _; omega⟩)) | fail) (show _ < _ by (try dsimp only); (have ht := tdiv_128 (n := n) (by assumption); omega)))
    | refine ix_map_at hx ?_
    | refine ix_map_at hy ?_
    | refine sl_pre (by omega) (fun _ => rfl) ?_
    | refine sl_suf (by omega) (fun _ => rfl) ?_
    | (refine ix_map2 hx (by omega) (by (try simp only [List.length_take]); omega) (fun y hy => ?_); try simp only [Int.toNat_natCast] at hy)
    | (refine ix_map (by omega) (by (try simp only [List.length_take]); omega) (fun x hx => ?_); try simp only [Int.toNat_natCast] at hx)
    | refine side_and (side_of (by first | (and_intros <;> first | exact Nat.le_of_ble_eq_true rfl | rfl | omega | (simp only [lensB, lensC, List.length_replicate, midL_len, mkL_length]; omega) | exact bytes_ok (Nat.le_of_ble_eq_true rfl) (by omega) (by simp only [lensB, lensC, List.length_replicate, midL_len, mkL_length]; omega) | exact bytes_okN (Nat.le_of_ble_eq_true rfl) (by simp only [lensB, lensC, List.length_replicate, midL_len, mkL_length]; omega)) | fail)) ?_
    | refine nilB_intro (fun h => ?_) ?_
    | refine side_and (side_of (show Go.Ab.structOk _ _ = true by kernel_rfl)) ?_
    | refine side_and (side_of (map_len (fun _ => rfl))) ?_
    | refine side_and (side_of (map_one (fun _ => rfl) _)) ?_
    | refine side_and ?_ ?_
    | refine LoadK_of rfl rfl ?_
    | refine LoadD_cel rfl rfl rfl rfl ?_
    | refine LoadD_of rfl ?_
    | refine StoreD_of rfl rfl rfl ?_
    | refine AppD_of rfl (by and_intros <;> first | rfl | decide) (by simp only [lensC]; first | (refine ⟨by omega, ?_⟩; refine Nat.le_trans (Nat.mul_le_mul_left _ (show _ ≤ 512 by decide)) ?_; omega) | fail) ?_
    | refine AppN_of rfl rfl (by and_intros <;> rfl) (by simp only [lensC]; first | (refine ⟨by omega, ?_⟩; refine Nat.le_trans (Nat.mul_le_mul_left _ (show _ ≤ 512 by decide)) ?_; omega) | fail) ?_
    | refine ⟨out ++ [byt n], bapp (congrArg (fun x => [[AV.int .u8 x]]) b3), ?_⟩
    | (show False; omega)
  all_goals
    conv => whnf
    refine OutA_plain rfl rfl ?_
    exact congrArg AV.str (numB_fin hT.2.1 (by assumption))
theorem c_spec_l1NumB9 (n0 : Int) (h0 : 0 ≤ n0) (h1 : n0 ≤ 1000000000) : PC Tryz.prog false 130 [.int .i64 n0] (.str (numB n0)) [] := by
  refine pc_at Tryz.func130 rfl (by kernel_rfl) 21 [.tmp 2] rfl rfl ?_
  repeat' (conv => whnf); first
    | refine side_and (side_of (one_lenC rfl rfl)) ?_
    | refine side_and (side_of (by first | (and_intros <;> first | exact Nat.le_of_ble_eq_true rfl | rfl | (intro e; exact absurd (AV.own.inj e) (by decide)) | (intro e; exact AV.noConfusion e)) | fail)) ?_
    | refine side_and (side_of (app_boundC (L := out.map bC) rfl (by (try simp only [List.length_map, List.length_append, List.length_take, List.length_set, List.length_drop]); omega) (Nat.le_of_ble_eq_true rfl))) ?_
    | refine nameB_true ?_
    | refine nameB_false ?_
    | refine nameB_yes (by assumption) ?_
    | refine nameB_no (by assumption) ?_
    | refine nameB_dyes (by assumption) ?_
    | refine nameB_dno (by assumption) ?_
    | (refine nameB_dec (fun h => ?_) (fun h => ?_) <;> try simp only [lensB, midL_len, mkL_length, Int.toNat_natCast, fact_byte] at h)
    | (refine nameB_cases (fun h => ?_) (fun h => ?_) <;> try simp only [bne_iff_ne, ne_eq, bne_eq_false_iff_eq, beq_iff_eq, beq_eq_false_iff_ne, Bool.not_eq_true', Bool.not_eq_false', Bool.or_eq_true, Bool.or_eq_false_iff, lensB, midL_len, mkL_length, Int.toNat_natCast, fact_byte] at h)
    | refine splitB_true ?_
    | refine splitB_false ?_
    | (refine splitB_intro (fun h => ?_) (fun h => ?_) <;> subst h)
    | refine draw_text (by kernel_rfl) (by kernel_rfl) (by kernel_rfl) ?_
    | refine both_intro ?_ ?_
    | refine eitherB_l ?_
    | exact True.intro
    | (show Go.Ab.Loop _ _ _; (refine Loop_nil 3 1 5 1 rfl rfl (by decide) ?_; refine Loop_at [] [] (Int × List UInt8) (fun j => match j with | (n, out) => 0 ≤ n ∧ out ++ numB n = numB n0 ∧ n ≤ bnd9 out.length ∧ out.length ≤ 5) (fun j => match j with | (n, out) => [(0, .int .i64 n), (3, .own 1)]) (fun j => match j with | (n, out) => [(1, ⟨false, 5, 1, out.map bC⟩)]) (fun j => match j with | (n, out) => n.toNat) (n0, []) ⟨by first | first | rfl | exact congrArg (AV.int .i64) (i64_wrap (by have ht := tdiv_128 (n := n) (by assumption); omega) (by have hb := bnd9_next hT.2.2.1 (by assumption); have hb2 := bnd9_le (k := out.length + 1); omega)) | rfl | fail, by first | rfl | first | rfl | exact congrArg (AV.int .i64) (i64_wrap (by have ht := tdiv_128 (n := n) (by assumption); omega) (by have hb := bnd9_next hT.2.2.1 (by assumption); have hb2 := bnd9_le (k := out.length + 1); omega)) | fail, trivial⟩ ⟨by first | rfl | first | exact congrArg (fun e => some (AObj.mk _ _ _ e)) (bapp (congrArg (fun x => [[AV.int .u8 x]]) (b1 hT.1))) | exact congrArg (fun e => some (AObj.mk _ _ _ e)) (bapp (congrArg (fun x => [[AV.int .u8 x]]) (b2 hT.1))) | fail | fail, trivial⟩ (by (try dsimp only); first | (exact ⟨h0, rfl, h1, Nat.zero_le _⟩) | fail) ?_; (conv => whnf); refine side_and (side_of (by first | exact fun ⟨n, out⟩ => rfl | exact fun ⟨n, out⟩ => by simp [headOk, closedE, closedO, closedL, AV.closed, hcap.closed, hasId, AObj.box, BK.ofB])) ?_; rintro ⟨n, out⟩ hT; try dsimp only at hT))
    | (show Go.Ab.Again _ _ _ _ _ _ _ _ _ _ _; refine Again_of (n.tdiv 128, out ++ [byt (n % 128 + 128)]) ⟨by first | first | rfl | exact congrArg (AV.int .i64) (i64_wrap (by have ht := tdiv_128 (n := n) (by assumption); omega) (by have hb := bnd9_next hT.2.2.1 (by assumption); have hb2 := bnd9_le (k := out.length + 1); omega)) | rfl | fail, by first | rfl | first | rfl | exact congrArg (AV.int .i64) (i64_wrap (by have ht := tdiv_128 (n := n) (by assumption); omega) (by have hb := bnd9_next hT.2.2.1 (by assumption); have hb2 := bnd9_le (k := out.length + 1); omega)) | fail, trivial⟩ ⟨by first | rfl | first | exact congrArg (fun e => some (AObj.mk _ _ _ e)) (bapp (congrArg (fun x => [[AV.int .u8 x]]) (b1 hT.1))) | exact congrArg (fun e => some (AObj.mk _ _ _ e)) (bapp (congrArg (fun x => [[AV.int .u8 x]]) (b2 hT.1))) | fail | fail, trivial⟩ (by first | (and_intros <;> first | rfl | trivial) | fail) (by first | (and_intros <;> first | rfl | trivial) | fail) rfl rfl rfl (by (try dsimp only); first | ((have ht := tdiv_128 (n := n) (by assumption); have hb := bnd9_next hT.2.2.1 (by assumption); exact ⟨ht.1, numB_go hT.2.1 (by assumption), by rw [List.length_append]; exact hb.1, by rw [List.length_append]; show out.length + 1 ≤ _; omega⟩)) | fail) (show _ < _ by (try dsimp only); (have ht := tdiv_128 (n := n) (by assumption); omega)))
    | refine ix_map_at hx ?_
    | refine ix_map_at hy ?_
    | refine sl_pre (by omega) (fun _ => rfl) ?_
    | refine sl_suf (by omega) (fun _ => rfl) ?_
    | (refine ix_map2 hx (by omega) (by (try simp only [List.length_take]); omega) (fun y hy => ?_); try simp only [Int.toNat_natCast] at hy)
    | (refine ix_map (by omega) (by (try simp only [List.length_take]); omega) (fun x hx => ?_); try simp only [Int.toNat_natCast] at hx)
    | refine side_and (side_of (by first | (and_intros <;> first | exact Nat.le_of_ble_eq_true rfl | rfl | omega | (simp only [lensB, lensC, List.length_replicate, midL_len, mkL_length]; omega) | exact bytes_ok (Nat.le_of_ble_eq_true rfl) (by omega) (by simp only [lensB, lensC, List.length_replicate, midL_len, mkL_length]; omega) | exact bytes_okN (Nat.le_of_ble_eq_true rfl) (by simp only [lensB, lensC, List.length_replicate, midL_len, mkL_length]; omega)) | fail)) ?_
    | refine nilB_intro (fun h => ?_) ?_
    | refine side_and (side_of (show Go.Ab.structOk _ _ = true by kernel_rfl)) ?_
    | refine side_and (side_of (map_len (fun _ => rfl))) ?_
    | refine side_and (side_of (map_one (fun _ => rfl) _)) ?_
    | refine side_and ?_ ?_
    | refine LoadK_of rfl rfl ?_
    | refine LoadD_cel rfl rfl rfl rfl ?_
    | refine LoadD_of rfl ?_
    | refine StoreD_of rfl rfl rfl ?_
    | refine AppD_of rfl (by and_intros <;> first | rfl | decide) (by simp only [lensC]; first | (refine ⟨by omega, ?_⟩; refine Nat.le_trans (Nat.mul_le_mul_left _ (show _ ≤ 512 by decide)) ?_; omega) | fail) ?_
    | refine AppN_of rfl rfl (by and_intros <;> rfl) (by simp only [lensC]; first | (refine ⟨by omega, ?_⟩; refine Nat.le_trans (Nat.mul_le_mul_left _ (show _ ≤ 512 by decide)) ?_; omega) | fail) ?_
    | refine ⟨out ++ [byt n], bapp (congrArg (fun x => [[AV.int .u8 x]]) b3), ?_⟩
    | (show False; omega)
  all_goals
    conv => whnf
    refine OutA_plain rfl rfl ?_
    exact congrArg AV.str (numB_fin hT.2.1 (by assumption))
/-- The cells of a reader. -/
def srcC (b : List UInt8) (a : Nat) (f : Bool) : List AV := [.str b, .int .i64 (a : Int), .bool f]
theorem c_impl_fail (b : List UInt8) (a : Nat) (f : Bool) : BC Tryz.prog 203 209 [.str b, .int .i64 (a : Int), .bool f] [] (.tup []) [] [.str b, .int .i64 (a : Int), .bool true] := by
  refine bc_of Tryz.func203 rfl (by kernel_rfl) 3 5 [] rfl rfl rfl (by decide) rfl ?_
  repeat' (conv => whnf); first
    | refine nameB_true ?_
    | refine nameB_false ?_
    | refine nameB_yes (by assumption) ?_
    | refine nameB_no (by assumption) ?_
    | refine nameB_dyes (by assumption) ?_
    | refine nameB_dno (by assumption) ?_
    | (refine nameB_dec (fun h => ?_) (fun h => ?_) <;> try simp only [lensB, midL_len, mkL_length, Int.toNat_natCast, fact_byte] at h)
    | (refine nameB_cases (fun h => ?_) (fun h => ?_) <;> try simp only [bne_iff_ne, ne_eq, bne_eq_false_iff_eq, beq_iff_eq, beq_eq_false_iff_ne, Bool.not_eq_true', Bool.not_eq_false', Bool.or_eq_true, Bool.or_eq_false_iff, lensB, midL_len, mkL_length, Int.toNat_natCast, fact_byte] at h)
    | refine splitB_true ?_
    | refine splitB_false ?_
    | (refine splitB_intro (fun h => ?_) (fun h => ?_) <;> subst h)
    | refine draw_text (by kernel_rfl) (by kernel_rfl) (by kernel_rfl) ?_
    | refine both_intro ?_ ?_
    | refine eitherB_l ?_
    | exact True.intro
    | refine ix_map_at hx ?_
    | refine ix_map_at hy ?_
    | refine sl_pre (by omega) (fun _ => rfl) ?_
    | refine sl_suf (by omega) (fun _ => rfl) ?_
    | (refine ix_map2 hx (by omega) (by (try simp only [List.length_take]); omega) (fun y hy => ?_); try simp only [Int.toNat_natCast] at hy)
    | (refine ix_map (by omega) (by (try simp only [List.length_take]); omega) (fun x hx => ?_); try simp only [Int.toNat_natCast] at hx)
    | refine side_and (side_of (by first | (and_intros <;> first | exact Nat.le_of_ble_eq_true rfl | rfl | omega | (simp only [lensB, lensC, List.length_replicate, midL_len, mkL_length]; omega) | exact bytes_ok (Nat.le_of_ble_eq_true rfl) (by omega) (by simp only [lensB, lensC, List.length_replicate, midL_len, mkL_length]; omega) | exact bytes_okN (Nat.le_of_ble_eq_true rfl) (by simp only [lensB, lensC, List.length_replicate, midL_len, mkL_length]; omega)) | fail)) ?_
    | refine nilB_intro (fun h => ?_) ?_
    | refine side_and (side_of (show Go.Ab.structOk _ _ = true by kernel_rfl)) ?_
    | refine side_and (side_of (map_len (fun _ => rfl))) ?_
    | refine side_and (side_of (map_one (fun _ => rfl) _)) ?_
    | refine side_and ?_ ?_
    | refine LoadK_of rfl rfl ?_
    | refine LoadD_cel rfl rfl rfl rfl ?_
    | refine LoadD_of rfl ?_
    | refine StoreD_of rfl rfl rfl ?_
    | refine AppD_of rfl (by and_intros <;> first | rfl | decide) (by simp only [lensC]; first | (refine ⟨by omega, ?_⟩; refine Nat.le_trans (Nat.mul_le_mul_left _ (show _ ≤ 512 by decide)) ?_; omega) | fail) ?_
    | refine AppN_of rfl rfl (by and_intros <;> rfl) (by simp only [lensC]; first | (refine ⟨by omega, ?_⟩; refine Nat.le_trans (Nat.mul_le_mul_left _ (show _ ≤ 512 by decide)) ?_; omega) | fail) ?_
    | (show False; omega)
  all_goals
    conv => whnf
    exact OutB_plain rfl rfl rfl rfl rfl rfl rfl
theorem takeF_no {b : List UInt8} {a : Nat} {f : Bool} {n : Int} (h : f = true ∨ n > (b.length : Int) - a) : takeF b a f n = ([], a, true) := by
  cases f with
  | true => rfl
  | false => unfold takeF; rw [if_pos (h.resolve_left (by simp))]
theorem takeF_yes {b : List UInt8} {a : Nat} {f : Bool} {n : Int} (h : f = false) (h2 : ¬ n > (b.length : Int) - a) : takeF b a f n = ((b.take (a + n.toNat)).drop a, a + n.toNat, false) := by
  subst h
  unfold takeF
  rw [if_neg h2]
theorem c_impl_take (b : List UInt8) (a : Nat) (f : Bool) (n : Int) (ha : a ≤ b.length) (hb : b.length ≤ 1073741824) (h0 : 0 ≤ n) (h1 : n ≤ 1000000000) : BC Tryz.prog 202 209 [.str b, .int .i64 (a : Int), .bool f] [.int .i64 n] (.str (takeF b a f n).1) [] [.str b, .int .i64 ((takeF b a f n).2.1 : Int), .bool (takeF b a f n).2.2] := by
  have hw1 := i64_wrap (e := (b.length : Int) - a) (by omega) (by omega)
  have hw2 := i64_wrap (e := (a : Int) + n) (by omega) (by omega)
  have hw3 : IntKind.i64.wrap (IntKind.i64.wrap ((a : Int) + n) - n) = a := by rw [hw2, i64_wrap (by omega) (by omega)]; omega
  cases f with
  | true =>
    refine bc_of Tryz.func202 rfl (by kernel_rfl) 3 48 [.tmp 4] rfl rfl rfl (by decide) rfl ?_
    repeat' (conv => whnf); first
      | refine nameB_true ?_
      | refine nameB_false ?_
      | refine nameB_yes (by assumption) ?_
      | refine nameB_no (by assumption) ?_
      | refine nameB_dyes (by assumption) ?_
      | refine nameB_dno (by assumption) ?_
      | (refine nameB_dec (fun h => ?_) (fun h => ?_) <;> try simp only [lensB, midL_len, mkL_length, Int.toNat_natCast, fact_byte] at h)
      | (refine nameB_cases (fun h => ?_) (fun h => ?_) <;> try simp only [bne_iff_ne, ne_eq, bne_eq_false_iff_eq, beq_iff_eq, beq_eq_false_iff_ne, Bool.not_eq_true', Bool.not_eq_false', Bool.or_eq_true, Bool.or_eq_false_iff, lensB, midL_len, mkL_length, Int.toNat_natCast, fact_byte] at h)
      | refine splitB_true ?_
      | refine splitB_false ?_
      | (refine splitB_intro (fun h => ?_) (fun h => ?_) <;> subst h)
      | refine draw_text (by kernel_rfl) (by kernel_rfl) (by kernel_rfl) ?_
      | refine both_intro ?_ ?_
      | refine eitherB_l ?_
      | exact True.intro
      | (show Go.Ab.CallA _ _ _ _ _ _ _; refine CallB (c_impl_fail ..) rfl rfl rfl rfl rfl rfl ?_)
      | refine ix_map_at hx ?_
      | refine ix_map_at hy ?_
      | refine sl_pre (by omega) (fun _ => rfl) ?_
      | refine sl_suf (by omega) (fun _ => rfl) ?_
      | (refine ix_map2 hx (by omega) (by (try simp only [List.length_take]); omega) (fun y hy => ?_); try simp only [Int.toNat_natCast] at hy)
      | (refine ix_map (by omega) (by (try simp only [List.length_take]); omega) (fun x hx => ?_); try simp only [Int.toNat_natCast] at hx)
      | refine side_and (side_of (by first | (and_intros <;> first | exact Nat.le_of_ble_eq_true rfl | rfl | omega | (simp only [lensB, lensC, List.length_replicate, midL_len, mkL_length]; omega) | exact bytes_ok (Nat.le_of_ble_eq_true rfl) (by omega) (by simp only [lensB, lensC, List.length_replicate, midL_len, mkL_length]; omega) | exact bytes_okN (Nat.le_of_ble_eq_true rfl) (by simp only [lensB, lensC, List.length_replicate, midL_len, mkL_length]; omega)) | fail)) ?_
      | refine nilB_intro (fun h => ?_) ?_
      | refine side_and (side_of (show Go.Ab.structOk _ _ = true by kernel_rfl)) ?_
      | refine side_and (side_of (map_len (fun _ => rfl))) ?_
      | refine side_and (side_of (map_one (fun _ => rfl) _)) ?_
      | refine side_and ?_ ?_
      | refine LoadK_of rfl rfl ?_
      | refine LoadD_cel rfl rfl rfl rfl ?_
      | refine LoadD_of rfl ?_
      | refine StoreD_of rfl rfl rfl ?_
      | refine AppD_of rfl (by and_intros <;> first | rfl | decide) (by simp only [lensC]; first | (refine ⟨by omega, ?_⟩; refine Nat.le_trans (Nat.mul_le_mul_left _ (show _ ≤ 512 by decide)) ?_; omega) | fail) ?_
      | refine AppN_of rfl rfl (by and_intros <;> rfl) (by simp only [lensC]; first | (refine ⟨by omega, ?_⟩; refine Nat.le_trans (Nat.mul_le_mul_left _ (show _ ≤ 512 by decide)) ?_; omega) | fail) ?_
      | (show False; omega)
    all_goals
      conv => whnf
      exact OutB_plain rfl rfl rfl rfl rfl rfl rfl
  | false =>
    refine bc_of Tryz.func202 rfl (by kernel_rfl) 3 48 [.tmp 4] rfl rfl rfl (by decide) rfl ?_
    repeat' (conv => whnf); first
      | refine nameB_true ?_
      | refine nameB_false ?_
      | refine nameB_yes (by assumption) ?_
      | refine nameB_no (by assumption) ?_
      | refine nameB_dyes (by assumption) ?_
      | refine nameB_dno (by assumption) ?_
      | (refine nameB_dec (fun h => ?_) (fun h => ?_) <;> try simp only [lensB, midL_len, mkL_length, Int.toNat_natCast, fact_byte] at h)
      | (refine nameB_cases (fun h => ?_) (fun h => ?_) <;> try simp only [bne_iff_ne, ne_eq, bne_eq_false_iff_eq, beq_iff_eq, beq_eq_false_iff_ne, Bool.not_eq_true', Bool.not_eq_false', Bool.or_eq_true, Bool.or_eq_false_iff, lensB, midL_len, mkL_length, Int.toNat_natCast, fact_byte] at h)
      | refine splitB_true ?_
      | refine splitB_false ?_
      | (refine splitB_intro (fun h => ?_) (fun h => ?_) <;> subst h)
      | refine draw_text (by kernel_rfl) (by kernel_rfl) (by kernel_rfl) ?_
      | refine both_intro ?_ ?_
      | refine eitherB_l ?_
      | exact True.intro
      | (show Go.Ab.CallA _ _ _ _ _ _ _; refine CallB (c_impl_fail ..) rfl rfl rfl rfl rfl rfl ?_)
      | refine ix_map_at hx ?_
      | refine ix_map_at hy ?_
      | refine sl_pre (by omega) (fun _ => rfl) ?_
      | refine sl_suf (by omega) (fun _ => rfl) ?_
      | (refine ix_map2 hx (by omega) (by (try simp only [List.length_take]); omega) (fun y hy => ?_); try simp only [Int.toNat_natCast] at hy)
      | (refine ix_map (by omega) (by (try simp only [List.length_take]); omega) (fun x hx => ?_); try simp only [Int.toNat_natCast] at hx)
      | refine side_and (side_of (by first | (and_intros <;> first | exact Nat.le_of_ble_eq_true rfl | rfl | omega | (simp only [lensB, lensC, List.length_replicate, midL_len, mkL_length]; omega) | exact bytes_ok (Nat.le_of_ble_eq_true rfl) (by omega) (by simp only [lensB, lensC, List.length_replicate, midL_len, mkL_length]; omega) | exact bytes_okN (Nat.le_of_ble_eq_true rfl) (by simp only [lensB, lensC, List.length_replicate, midL_len, mkL_length]; omega)) | fail)) ?_
      | refine nilB_intro (fun h => ?_) ?_
      | refine side_and (side_of (show Go.Ab.structOk _ _ = true by kernel_rfl)) ?_
      | refine side_and (side_of (map_len (fun _ => rfl))) ?_
      | refine side_and (side_of (map_one (fun _ => rfl) _)) ?_
      | refine side_and ?_ ?_
      | refine LoadK_of rfl rfl ?_
      | refine LoadD_cel rfl rfl rfl rfl ?_
      | refine LoadD_of rfl ?_
      | refine StoreD_of rfl rfl rfl ?_
      | refine AppD_of rfl (by and_intros <;> first | rfl | decide) (by simp only [lensC]; first | (refine ⟨by omega, ?_⟩; refine Nat.le_trans (Nat.mul_le_mul_left _ (show _ ≤ 512 by decide)) ?_; omega) | fail) ?_
      | refine AppN_of rfl rfl (by and_intros <;> rfl) (by simp only [lensC]; first | (refine ⟨by omega, ?_⟩; refine Nat.le_trans (Nat.mul_le_mul_left _ (show _ ≤ 512 by decide)) ?_; omega) | fail) ?_
      | (show False; omega)
    all_goals
      conv => whnf
      first
      | (rw [takeF_no (b := b) (a := a) (f := false) (n := n) (by right; omega)]; exact OutB_plain rfl rfl rfl rfl rfl rfl rfl)
      | (rw [takeF_yes (b := b) (a := a) (f := false) (n := n) rfl (by omega)]
         refine OutB_plain rfl rfl rfl rfl rfl ?_ ?_
         · refine congrArg AV.str ?_
           rw [hw3, hw2, show ((a : Int) + n).toNat = a + n.toNat by omega, Int.toNat_natCast]
         · refine congrArg (fun z : Int => [AV.str b, AV.int .i64 z, AV.bool false]) ?_
           rw [hw2]; simp only; omega)
theorem numL_none {b : List UInt8} {s f : Nat} {n q : Int} {a : Nat} (h : b[a]? = none) : numL b s (f + 1) n q a = (0, a, true) := by unfold numL; rw [h]
theorem numL_big {b : List UInt8} {s f : Nat} {n q : Int} {a : Nat} {x : UInt8} (h : b[a]? = some x) (h2 : n + ((x.toNat % 128 : Nat) : Int) * q > 1000000000 ∨ a + 1 - s > 5) : numL b s (f + 1) n q a = (0, a + 1, true) := by
  unfold numL; rw [h]; simp only; rw [if_pos h2]
theorem numL_fin {b : List UInt8} {s f : Nat} {n q : Int} {a : Nat} {x : UInt8} (h : b[a]? = some x) (h2 : ¬ (n + ((x.toNat % 128 : Nat) : Int) * q > 1000000000 ∨ a + 1 - s > 5)) (h3 : x.toNat < 128) : numL b s (f + 1) n q a = finI b s (n + ((x.toNat % 128 : Nat) : Int) * q) (a + 1) := by
  unfold numL; rw [h]; simp only; rw [if_neg h2, if_pos h3]
theorem numL_go {b : List UInt8} {s f : Nat} {n q : Int} {a : Nat} {x : UInt8} (h : b[a]? = some x) (h2 : ¬ (n + ((x.toNat % 128 : Nat) : Int) * q > 1000000000 ∨ a + 1 - s > 5)) (h3 : ¬ x.toNat < 128) : numL b s (f + 1) n q a = numL b s f (n + ((x.toNat % 128 : Nat) : Int) * q) (q * 128) (a + 1) := by
  conv => lhs; unfold numL
  rw [h]; simp only; rw [if_neg h2, if_neg h3]
theorem takeF_one_no {b : List UInt8} {a : Nat} (h : b[a]? = none) : takeF b a false 1 = ([], a, true) := takeF_no (.inr (by have := List.getElem?_eq_none_iff.1 h; omega))
theorem takeF_one {b : List UInt8} {a : Nat} {x : UInt8} (h : b[a]? = some x) : takeF b a false 1 = ([x], a + 1, false) := by
  have hlt := (List.getElem?_eq_some_iff.1 h).1
  rw [takeF_yes rfl (by omega)]
  have : (b.take (a + (1 : Int).toNat)).drop a = [x] := by
    rw [show a + (1 : Int).toNat = a + 1 from rfl, List.take_add_one, h, List.drop_append_of_le_length (by rw [List.length_take]; omega), List.drop_eq_nil_of_le (by rw [List.length_take]; omega)]
    rfl
  rw [this]
  rfl
theorem c_impl_take1_no (b : List UInt8) (a : Nat) (ha : a ≤ b.length) (hb : b.length ≤ 1073741824) (h : b[a]? = none) : BC Tryz.prog 202 209 [.str b, .int .i64 (a : Int), .bool false] [.int .i64 1] (.str []) [] [.str b, .int .i64 (a : Int), .bool true] := by
  have := c_impl_take b a false 1 ha hb (by omega) (by omega)
  rw [takeF_one_no h] at this
  exact this
theorem c_impl_take1 (b : List UInt8) (a : Nat) (x : UInt8) (hb : b.length ≤ 1073741824) (h : b[a]? = some x) : BC Tryz.prog 202 209 [.str b, .int .i64 (a : Int), .bool false] [.int .i64 1] (.str [x]) [] [.str b, .int .i64 ((a + 1 : Nat) : Int), .bool false] := by
  have hlt := (List.getElem?_eq_some_iff.1 h).1
  have := c_impl_take b a false 1 (by omega) hb (by omega) (by omega)
  rw [takeF_one h] at this
  exact this
theorem c_impl_take_bad (b : List UInt8) (a : Nat) (n : Int) (ha : a ≤ b.length) (hb : b.length ≤ 1073741824) (h0 : 0 ≤ n) (h1 : n ≤ 1000000000) : BC Tryz.prog 202 209 [.str b, .int .i64 (a : Int), .bool true] [.int .i64 n] (.str []) [] [.str b, .int .i64 (a : Int), .bool true] := c_impl_take b a true n ha hb h0 h1
end Go.Proofs.YtfpkfnfgloonhaaGreat
