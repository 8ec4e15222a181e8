/-
  What the functions that encode numbers, texts and sums give.
  No condition.
-/
import Derived.Test.YtfpkfnfgloonhaaGreatStrs
import Derived.Test.YtfpkfnfgloonhaaGreatTypesA
namespace Go.Proofs.YtfpkfnfgloonhaaGreat
open Go.Ab
set_option linter.unusedSimpArgs false
set_option maxRecDepth 20000
set_option maxHeartbeats 4000000
set_option linter.unusedVariables false

def bC (b : UInt8) : List AV := [.int .u8 (b.toNat : Int)]
def byt (n : Int) : UInt8 := (n % 256).toNat.toUInt8
theorem u8w {e : Int} : IntKind.u8.wrap e = e % 256 := by
  unfold IntKind.wrap
  simp [IntKind.bits, IntKind.signed]
theorem byt_toNat {n : Int} : ((byt n).toNat : Int) = n % 256 := by
  unfold byt
  rw [Nat.toUInt8, UInt8.toNat_ofNat']
  omega
theorem b1 {n : Int} (h : 0 ≤ n) : IntKind.u8.wrap (IntKind.u8.wrap (n.tmod 128) + 128) = ((byt (n % 128 + 128)).toNat : Int) := by
  rw [u8w, u8w, byt_toNat, Int.tmod_eq_emod_of_nonneg h]; omega
theorem b2 {n : Int} (h : 0 ≤ n) : IntKind.u8.wrap (IntKind.i64.wrap (n.tmod 128 + 128)) = ((byt (n % 128 + 128)).toNat : Int) := by
  rw [u8w, byt_toNat, Int.tmod_eq_emod_of_nonneg h, i64_wrap (by omega) (by omega)]
theorem b3 {n : Int} : IntKind.u8.wrap n = ((byt n).toNat : Int) := by rw [u8w, byt_toNat]
theorem bapp {out : List UInt8} {b : UInt8} {L : List (List AV)} (hL : L = [bC b]) : out.map bC ++ L = (out ++ [b]).map bC := by rw [hL]; simp
def numG : Nat → Int → List UInt8
  | 0, n => [byt n]
  | f + 1, n => if n ≥ 128 then byt (n % 128 + 128) :: numG f (n.tdiv 128) else [byt n]
def numB (n : Int) : List UInt8 := numG n.toNat n
theorem numG_end {out B : List UInt8} {f : Nat} {n : Int} (h : out ++ numG f n = B) (hn : ¬ n ≥ 128) : out ++ [byt n] = B := by
  cases f with
  | zero => exact h
  | succ f => unfold numG at h; rw [if_neg hn] at h; exact h
theorem numG_go {out B : List UInt8} {f : Nat} {n : Int} (h : out ++ numG f n = B) (hn : n ≥ 128) (hf : n.toNat ≤ f) : (out ++ [byt (n % 128 + 128)]) ++ numG (f - 1) (n.tdiv 128) = B := by
  obtain ⟨f, rfl⟩ : ∃ m, f = m + 1 := ⟨f - 1, by omega⟩
  unfold numG at h
  rw [if_pos hn] at h
  rw [List.append_assoc]
  exact h
theorem tdiv_128 {n : Int} (h : n ≥ 128) : 0 ≤ n.tdiv 128 ∧ n.tdiv 128 < n := by
  rw [Int.tdiv_eq_ediv_of_nonneg (by omega)]
  omega
theorem c_impl_numBytes (n0 : Int) (h0 : 0 ≤ n0) (h1 : n0 ≤ 1048576) : PC Tryz.prog false 153 [.int .i64 n0] (.str (numB n0)) [] := by
  refine pc_at Tryz.func153 rfl (by kernel_rfl) 22 [.tmp 2] rfl rfl ?_
  repeat' (conv => whnf); first
    | refine side_and (side_of (one_lenC rfl rfl)) ?_
    | refine side_and (side_of (by first | (and_intros <;> first | exact Nat.le_of_ble_eq_true rfl | rfl | (intro e; exact absurd (AV.own.inj e) (by decide)) | (intro e; exact AV.noConfusion e)) | fail)) ?_
    | refine side_and (side_of (app_boundC (L := out.map bC) rfl (by (try simp only [List.length_map, List.length_append, List.length_take, List.length_set, List.length_drop]); omega) (Nat.le_of_ble_eq_true rfl))) ?_
    | refine nameB_true ?_
    | refine nameB_false ?_
    | refine nameB_yes (by assumption) ?_
    | refine nameB_no (by assumption) ?_
    | refine nameB_dyes (by assumption) ?_
    | refine nameB_dno (by assumption) ?_
    | (refine nameB_dec (fun h => ?_) (fun h => ?_) <;> try simp only [lensB, midL_len, mkL_length, Int.toNat_natCast, fact_byte] at h)
    | (refine nameB_cases (fun h => ?_) (fun h => ?_) <;> try simp only [bne_iff_ne, ne_eq, bne_eq_false_iff_eq, beq_iff_eq, beq_eq_false_iff_ne, Bool.not_eq_true', Bool.not_eq_false', Bool.or_eq_true, Bool.or_eq_false_iff, lensB, midL_len, mkL_length, Int.toNat_natCast, fact_byte] at h)
    | refine splitB_true ?_
    | refine splitB_false ?_
    | (refine splitB_intro (fun h => ?_) (fun h => ?_) <;> subst h)
    | refine draw_text (by kernel_rfl) (by kernel_rfl) (by kernel_rfl) ?_
    | refine both_intro ?_ ?_
    | refine eitherB_l ?_
    | exact True.intro
    | (show Go.Ab.Loop _ _ _; (refine Loop_nil 3 1 5 1 rfl rfl (by decide) ?_; refine Loop_at [] [] (Int × List UInt8 × Nat) (fun j => match j with | (n, out, f) => 0 ≤ n ∧ n.toNat ≤ f ∧ out ++ numG f n = numB n0 ∧ (out.length : Int) + n ≤ n0) (fun j => match j with | (n, out, f) => [(0, .int .i64 n), (3, .own 1)]) (fun j => match j with | (n, out, f) => [(1, ⟨false, 5, 1, out.map bC⟩)]) (fun j => match j with | (n, out, f) => n.toNat) (n0, [], n0.toNat) ⟨by first | first | rfl | exact congrArg (AV.int .i64) (i64_wrap (by have ht := tdiv_128 (n := n) (by assumption); omega) (by have ht := tdiv_128 (n := n) (by assumption); omega)) | rfl | fail, by first | rfl | first | rfl | exact congrArg (AV.int .i64) (i64_wrap (by have ht := tdiv_128 (n := n) (by assumption); omega) (by have ht := tdiv_128 (n := n) (by assumption); omega)) | fail, trivial⟩ ⟨by first | rfl | first | exact congrArg (fun e => some (AObj.mk _ _ _ e)) (bapp (congrArg (fun x => [[AV.int .u8 x]]) (b1 hT.1))) | exact congrArg (fun e => some (AObj.mk _ _ _ e)) (bapp (congrArg (fun x => [[AV.int .u8 x]]) (b2 hT.1))) | fail | fail, trivial⟩ (by (try dsimp only); first | (exact ⟨h0, Nat.le_refl _, rfl, by simp⟩) | fail) ?_; (conv => whnf); refine side_and (side_of (by first | exact fun ⟨n, out, f⟩ => rfl | exact fun ⟨n, out, f⟩ => by simp [headOk, closedE, closedO, closedL, AV.closed, hcap.closed, hasId, AObj.box, BK.ofB])) ?_; rintro ⟨n, out, f⟩ hT; try dsimp only at hT))
    | (show Go.Ab.Again _ _ _ _ _ _ _ _ _ _ _; refine Again_of (n.tdiv 128, out ++ [byt (n % 128 + 128)], f - 1) ⟨by first | first | rfl | exact congrArg (AV.int .i64) (i64_wrap (by have ht := tdiv_128 (n := n) (by assumption); omega) (by have ht := tdiv_128 (n := n) (by assumption); omega)) | rfl | fail, by first | rfl | first | rfl | exact congrArg (AV.int .i64) (i64_wrap (by have ht := tdiv_128 (n := n) (by assumption); omega) (by have ht := tdiv_128 (n := n) (by assumption); omega)) | fail, trivial⟩ ⟨by first | rfl | first | exact congrArg (fun e => some (AObj.mk _ _ _ e)) (bapp (congrArg (fun x => [[AV.int .u8 x]]) (b1 hT.1))) | exact congrArg (fun e => some (AObj.mk _ _ _ e)) (bapp (congrArg (fun x => [[AV.int .u8 x]]) (b2 hT.1))) | fail | fail, trivial⟩ (by first | (and_intros <;> first | rfl | trivial) | fail) (by first | (and_intros <;> first | rfl | trivial) | fail) rfl rfl rfl (by (try dsimp only); first | ((have ht := tdiv_128 (n := n) (by assumption); exact ⟨ht.1, by omega, numG_go hT.2.2.1 (by assumption) hT.2.1, by simp only [List.length_append, List.length_cons, List.length_nil]; omega⟩)) | fail) (show _ < _ by (try dsimp only); (have ht := tdiv_128 (n := n) (by assumption); omega)))
    | refine ix_map_at hx ?_
    | refine ix_map_at hy ?_
    | refine sl_pre (by omega) (fun _ => rfl) ?_
    | refine sl_suf (by omega) (fun _ => rfl) ?_
    | (refine ix_map2 hx (by omega) (by (try simp only [List.length_take]); omega) (fun y hy => ?_); try simp only [Int.toNat_natCast] at hy)
    | (refine ix_map (by omega) (by (try simp only [List.length_take]); omega) (fun x hx => ?_); try simp only [Int.toNat_natCast] at hx)
    | refine side_and (side_of (by first | (and_intros <;> first | exact Nat.le_of_ble_eq_true rfl | rfl | omega | (simp only [lensB, lensC, List.length_replicate, midL_len, mkL_length]; omega) | exact bytes_ok (Nat.le_of_ble_eq_true rfl) (by omega) (by simp only [lensB, lensC, List.length_replicate, midL_len, mkL_length]; omega) | exact bytes_okN (Nat.le_of_ble_eq_true rfl) (by simp only [lensB, lensC, List.length_replicate, midL_len, mkL_length]; omega)) | fail)) ?_
    | refine nilB_intro (fun h => ?_) ?_
    | refine side_and (side_of (show Go.Ab.structOk _ _ = true by kernel_rfl)) ?_
    | refine side_and (side_of (map_len (fun _ => rfl))) ?_
    | refine side_and (side_of (map_one (fun _ => rfl) _)) ?_
    | refine side_and ?_ ?_
    | refine LoadK_of rfl rfl ?_
    | refine LoadD_cel rfl rfl rfl rfl ?_
    | refine LoadD_of rfl ?_
    | refine StoreD_of rfl rfl rfl ?_
    | refine AppD_of rfl (by and_intros <;> first | rfl | decide) (by simp only [lensC]; first | (refine ⟨by omega, ?_⟩; refine Nat.le_trans (Nat.mul_le_mul_left _ (show _ ≤ 512 by decide)) ?_; omega) | fail) ?_
    | refine AppN_of rfl rfl (by and_intros <;> rfl) (by simp only [lensC]; first | (refine ⟨by omega, ?_⟩; refine Nat.le_trans (Nat.mul_le_mul_left _ (show _ ≤ 512 by decide)) ?_; omega) | fail) ?_
    | refine ⟨out ++ [byt n], bapp (congrArg (fun x => [[AV.int .u8 x]]) b3), ?_⟩
    | (show False; omega)
  all_goals
    conv => whnf
    refine OutA_plain rfl rfl ?_
    exact congrArg AV.str (numG_end hT.2.2.1 (by assumption))
theorem c_spec_l1NumB (n0 : Int) (h0 : 0 ≤ n0) (h1 : n0 ≤ 1048576) : PC Tryz.prog false 130 [.int .i64 n0] (.str (numB n0)) [] := by
  refine pc_at Tryz.func130 rfl (by kernel_rfl) 21 [.tmp 2] rfl rfl ?_
  repeat' (conv => whnf); first
    | refine side_and (side_of (one_lenC rfl rfl)) ?_
    | refine side_and (side_of (by first | (and_intros <;> first | exact Nat.le_of_ble_eq_true rfl | rfl | (intro e; exact absurd (AV.own.inj e) (by decide)) | (intro e; exact AV.noConfusion e)) | fail)) ?_
    | refine side_and (side_of (app_boundC (L := out.map bC) rfl (by (try simp only [List.length_map, List.length_append, List.length_take, List.length_set, List.length_drop]); omega) (Nat.le_of_ble_eq_true rfl))) ?_
    | refine nameB_true ?_
    | refine nameB_false ?_
    | refine nameB_yes (by assumption) ?_
    | refine nameB_no (by assumption) ?_
    | refine nameB_dyes (by assumption) ?_
    | refine nameB_dno (by assumption) ?_
    | (refine nameB_dec (fun h => ?_) (fun h => ?_) <;> try simp only [lensB, midL_len, mkL_length, Int.toNat_natCast, fact_byte] at h)
    | (refine nameB_cases (fun h => ?_) (fun h => ?_) <;> try simp only [bne_iff_ne, ne_eq, bne_eq_false_iff_eq, beq_iff_eq, beq_eq_false_iff_ne, Bool.not_eq_true', Bool.not_eq_false', Bool.or_eq_true, Bool.or_eq_false_iff, lensB, midL_len, mkL_length, Int.toNat_natCast, fact_byte] at h)
    | refine splitB_true ?_
    | refine splitB_false ?_
    | (refine splitB_intro (fun h => ?_) (fun h => ?_) <;> subst h)
    | refine draw_text (by kernel_rfl) (by kernel_rfl) (by kernel_rfl) ?_
    | refine both_intro ?_ ?_
    | refine eitherB_l ?_
    | exact True.intro
    | (show Go.Ab.Loop _ _ _; (refine Loop_nil 3 1 5 1 rfl rfl (by decide) ?_; refine Loop_at [] [] (Int × List UInt8 × Nat) (fun j => match j with | (n, out, f) => 0 ≤ n ∧ n.toNat ≤ f ∧ out ++ numG f n = numB n0 ∧ (out.length : Int) + n ≤ n0) (fun j => match j with | (n, out, f) => [(0, .int .i64 n), (3, .own 1)]) (fun j => match j with | (n, out, f) => [(1, ⟨false, 5, 1, out.map bC⟩)]) (fun j => match j with | (n, out, f) => n.toNat) (n0, [], n0.toNat) ⟨by first | first | rfl | exact congrArg (AV.int .i64) (i64_wrap (by have ht := tdiv_128 (n := n) (by assumption); omega) (by have ht := tdiv_128 (n := n) (by assumption); omega)) | rfl | fail, by first | rfl | first | rfl | exact congrArg (AV.int .i64) (i64_wrap (by have ht := tdiv_128 (n := n) (by assumption); omega) (by have ht := tdiv_128 (n := n) (by assumption); omega)) | fail, trivial⟩ ⟨by first | rfl | first | exact congrArg (fun e => some (AObj.mk _ _ _ e)) (bapp (congrArg (fun x => [[AV.int .u8 x]]) (b1 hT.1))) | exact congrArg (fun e => some (AObj.mk _ _ _ e)) (bapp (congrArg (fun x => [[AV.int .u8 x]]) (b2 hT.1))) | fail | fail, trivial⟩ (by (try dsimp only); first | (exact ⟨h0, Nat.le_refl _, rfl, by simp⟩) | fail) ?_; (conv => whnf); refine side_and (side_of (by first | exact fun ⟨n, out, f⟩ => rfl | exact fun ⟨n, out, f⟩ => by simp [headOk, closedE, closedO, closedL, AV.closed, hcap.closed, hasId, AObj.box, BK.ofB])) ?_; rintro ⟨n, out, f⟩ hT; try dsimp only at hT))
    | (show Go.Ab.Again _ _ _ _ _ _ _ _ _ _ _; refine Again_of (n.tdiv 128, out ++ [byt (n % 128 + 128)], f - 1) ⟨by first | first | rfl | exact congrArg (AV.int .i64) (i64_wrap (by have ht := tdiv_128 (n := n) (by assumption); omega) (by have ht := tdiv_128 (n := n) (by assumption); omega)) | rfl | fail, by first | rfl | first | rfl | exact congrArg (AV.int .i64) (i64_wrap (by have ht := tdiv_128 (n := n) (by assumption); omega) (by have ht := tdiv_128 (n := n) (by assumption); omega)) | fail, trivial⟩ ⟨by first | rfl | first | exact congrArg (fun e => some (AObj.mk _ _ _ e)) (bapp (congrArg (fun x => [[AV.int .u8 x]]) (b1 hT.1))) | exact congrArg (fun e => some (AObj.mk _ _ _ e)) (bapp (congrArg (fun x => [[AV.int .u8 x]]) (b2 hT.1))) | fail | fail, trivial⟩ (by first | (and_intros <;> first | rfl | trivial) | fail) (by first | (and_intros <;> first | rfl | trivial) | fail) rfl rfl rfl (by (try dsimp only); first | ((have ht := tdiv_128 (n := n) (by assumption); exact ⟨ht.1, by omega, numG_go hT.2.2.1 (by assumption) hT.2.1, by simp only [List.length_append, List.length_cons, List.length_nil]; omega⟩)) | fail) (show _ < _ by (try dsimp only); (have ht := tdiv_128 (n := n) (by assumption); omega)))
    | refine ix_map_at hx ?_
    | refine ix_map_at hy ?_
    | refine sl_pre (by omega) (fun _ => rfl) ?_
    | refine sl_suf (by omega) (fun _ => rfl) ?_
    | (refine ix_map2 hx (by omega) (by (try simp only [List.length_take]); omega) (fun y hy => ?_); try simp only [Int.toNat_natCast] at hy)
    | (refine ix_map (by omega) (by (try simp only [List.length_take]); omega) (fun x hx => ?_); try simp only [Int.toNat_natCast] at hx)
    | refine side_and (side_of (by first | (and_intros <;> first | exact Nat.le_of_ble_eq_true rfl | rfl | omega | (simp only [lensB, lensC, List.length_replicate, midL_len, mkL_length]; omega) | exact bytes_ok (Nat.le_of_ble_eq_true rfl) (by omega) (by simp only [lensB, lensC, List.length_replicate, midL_len, mkL_length]; omega) | exact bytes_okN (Nat.le_of_ble_eq_true rfl) (by simp only [lensB, lensC, List.length_replicate, midL_len, mkL_length]; omega)) | fail)) ?_
    | refine nilB_intro (fun h => ?_) ?_
    | refine side_and (side_of (show Go.Ab.structOk _ _ = true by kernel_rfl)) ?_
    | refine side_and (side_of (map_len (fun _ => rfl))) ?_
    | refine side_and (side_of (map_one (fun _ => rfl) _)) ?_
    | refine side_and ?_ ?_
    | refine LoadK_of rfl rfl ?_
    | refine LoadD_cel rfl rfl rfl rfl ?_
    | refine LoadD_of rfl ?_
    | refine StoreD_of rfl rfl rfl ?_
    | refine AppD_of rfl (by and_intros <;> first | rfl | decide) (by simp only [lensC]; first | (refine ⟨by omega, ?_⟩; refine Nat.le_trans (Nat.mul_le_mul_left _ (show _ ≤ 512 by decide)) ?_; omega) | fail) ?_
    | refine AppN_of rfl rfl (by and_intros <;> rfl) (by simp only [lensC]; first | (refine ⟨by omega, ?_⟩; refine Nat.le_trans (Nat.mul_le_mul_left _ (show _ ≤ 512 by decide)) ?_; omega) | fail) ?_
    | refine ⟨out ++ [byt n], bapp (congrArg (fun x => [[AV.int .u8 x]]) b3), ?_⟩
    | (show False; omega)
  all_goals
    conv => whnf
    refine OutA_plain rfl rfl ?_
    exact congrArg AV.str (numG_end hT.2.2.1 (by assumption))
theorem numG_len : ∀ (f : Nat) (n : Int), (numG f n).length ≤ f + 1
  | 0, n => by simp [numG]
  | f + 1, n => by
    unfold numG
    split
    · have := numG_len f (n.tdiv 128); simp only [List.length_cons]; omega
    · simp
theorem numB_len (n : Int) : (numB n).length ≤ n.toNat + 1 := numG_len _ _
/-! Texts. -/
def textB (s : List UInt8) : List UInt8 := numB s.length ++ s
theorem textB_len (s : List UInt8) : (textB s).length ≤ 2 * s.length + 1 := by
  have := numB_len (s.length : Nat)
  unfold textB
  rw [List.length_append]
  omega
def textsG (l : List (List UInt8)) : List UInt8 := (l.map textB).flatten
def textsB (l : List (List UInt8)) : List UInt8 := numB l.length ++ textsG l
theorem textsG_len (l : List (List UInt8)) : (textsG l).length ≤ 2 * wL List.length l := by
  unfold textsG wL
  induction l with
  | nil => simp
  | cons x l ih =>
    have := textB_len x
    simp only [List.map_cons, List.flatten_cons, List.length_append, List.length_cons, List.sum_cons] at ih ⊢
    omega
theorem textsG_take (l : List (List UInt8)) (k : Nat) : (textsG (l.take k)).length ≤ (textsG l).length := by
  conv => rhs; rw [← List.take_append_drop k l]
  unfold textsG
  rw [List.map_append, List.flatten_append, List.length_append]
  omega
def flagB (b : Bool) : List UInt8 := match b with | true => [1] | false => [0]
theorem flagB_len (b : Bool) : (flagB b).length = 1 := by cases b <;> rfl
theorem textsG_next {l : List (List UInt8)} {k : Nat} {x : List UInt8} {A : List UInt8} (hx : l[k]? = some x) : (A ++ textsG (l.take k)) ++ textB x = A ++ textsG (l.take (k + 1)) := by
  unfold textsG
  rw [take_get hx, List.map_append, List.flatten_append, List.append_assoc]
  simp
theorem c_impl_textBytes (s : List UInt8) (h : s.length ≤ 1048576) : PC Tryz.prog false 194 [.str s] (.str (textB s)) [] := by
  have hn := numB_len (s.length : Nat)
  refine pc_at Tryz.func194 rfl (by kernel_rfl) 8 [.tmp 2] rfl rfl ?_
  repeat' (conv => whnf); first
    | exact side_of (by omega)
    | refine nameB_true ?_
    | refine nameB_false ?_
    | refine nameB_yes (by assumption) ?_
    | refine nameB_no (by assumption) ?_
    | refine nameB_dyes (by assumption) ?_
    | refine nameB_dno (by assumption) ?_
    | (refine nameB_dec (fun h => ?_) (fun h => ?_) <;> try simp only [lensB, midL_len, mkL_length, Int.toNat_natCast, fact_byte] at h)
    | (refine nameB_cases (fun h => ?_) (fun h => ?_) <;> try simp only [bne_iff_ne, ne_eq, bne_eq_false_iff_eq, beq_iff_eq, beq_eq_false_iff_ne, Bool.not_eq_true', Bool.not_eq_false', Bool.or_eq_true, Bool.or_eq_false_iff, lensB, midL_len, mkL_length, Int.toNat_natCast, fact_byte] at h)
    | refine splitB_true ?_
    | refine splitB_false ?_
    | (refine splitB_intro (fun h => ?_) (fun h => ?_) <;> subst h)
    | refine draw_text (by kernel_rfl) (by kernel_rfl) (by kernel_rfl) ?_
    | refine both_intro ?_ ?_
    | refine eitherB_l ?_
    | exact True.intro
    | (show Go.Ab.CallA _ _ _ _ _ _ _; refine Call0 (c_impl_numBytes (s.length : Nat) (by omega) (by omega)) rfl rfl ?_)
    | refine ix_map_at hx ?_
    | refine ix_map_at hy ?_
    | refine sl_pre (by omega) (fun _ => rfl) ?_
    | refine sl_suf (by omega) (fun _ => rfl) ?_
    | (refine ix_map2 hx (by omega) (by (try simp only [List.length_take]); omega) (fun y hy => ?_); try simp only [Int.toNat_natCast] at hy)
    | (refine ix_map (by omega) (by (try simp only [List.length_take]); omega) (fun x hx => ?_); try simp only [Int.toNat_natCast] at hx)
    | refine side_and (side_of (by first | (and_intros <;> first | exact Nat.le_of_ble_eq_true rfl | rfl | omega | (simp only [lensB, lensC, List.length_replicate, midL_len, mkL_length]; omega) | exact bytes_ok (Nat.le_of_ble_eq_true rfl) (by omega) (by simp only [lensB, lensC, List.length_replicate, midL_len, mkL_length]; omega) | exact bytes_okN (Nat.le_of_ble_eq_true rfl) (by simp only [lensB, lensC, List.length_replicate, midL_len, mkL_length]; omega)) | fail)) ?_
    | refine nilB_intro (fun h => ?_) ?_
    | refine side_and (side_of (show Go.Ab.structOk _ _ = true by kernel_rfl)) ?_
    | refine side_and (side_of (map_len (fun _ => rfl))) ?_
    | refine side_and (side_of (map_one (fun _ => rfl) _)) ?_
    | refine side_and ?_ ?_
    | refine LoadK_of rfl rfl ?_
    | refine LoadD_cel rfl rfl rfl rfl ?_
    | refine LoadD_of rfl ?_
    | refine StoreD_of rfl rfl rfl ?_
    | refine AppD_of rfl (by and_intros <;> first | rfl | decide) (by simp only [lensC]; first | (refine ⟨by omega, ?_⟩; refine Nat.le_trans (Nat.mul_le_mul_left _ (show _ ≤ 512 by decide)) ?_; omega) | fail) ?_
    | refine AppN_of rfl rfl (by and_intros <;> rfl) (by simp only [lensC]; first | (refine ⟨by omega, ?_⟩; refine Nat.le_trans (Nat.mul_le_mul_left _ (show _ ≤ 512 by decide)) ?_; omega) | fail) ?_
    | (show False; omega)
  all_goals
    conv => whnf
    refine OutA_plain rfl rfl ?_
    first
    | rfl
    | (simp_all [textB, named, AV.sub, AV.sub.subL]; done)
    | (simp_all [textB, named, AV.sub, AV.sub.subL] <;> omega)
theorem c_spec_l1TextB (s : List UInt8) (h : s.length ≤ 1048576) : PC Tryz.prog false 171 [.str s] (.str (textB s)) [] := by
  have hn := numB_len (s.length : Nat)
  refine pc_at Tryz.func171 rfl (by kernel_rfl) 8 [.tmp 2] rfl rfl ?_
  repeat' (conv => whnf); first
    | exact side_of (by omega)
    | refine nameB_true ?_
    | refine nameB_false ?_
    | refine nameB_yes (by assumption) ?_
    | refine nameB_no (by assumption) ?_
    | refine nameB_dyes (by assumption) ?_
    | refine nameB_dno (by assumption) ?_
    | (refine nameB_dec (fun h => ?_) (fun h => ?_) <;> try simp only [lensB, midL_len, mkL_length, Int.toNat_natCast, fact_byte] at h)
    | (refine nameB_cases (fun h => ?_) (fun h => ?_) <;> try simp only [bne_iff_ne, ne_eq, bne_eq_false_iff_eq, beq_iff_eq, beq_eq_false_iff_ne, Bool.not_eq_true', Bool.not_eq_false', Bool.or_eq_true, Bool.or_eq_false_iff, lensB, midL_len, mkL_length, Int.toNat_natCast, fact_byte] at h)
    | refine splitB_true ?_
    | refine splitB_false ?_
    | (refine splitB_intro (fun h => ?_) (fun h => ?_) <;> subst h)
    | refine draw_text (by kernel_rfl) (by kernel_rfl) (by kernel_rfl) ?_
    | refine both_intro ?_ ?_
    | refine eitherB_l ?_
    | exact True.intro
    | (show Go.Ab.CallA _ _ _ _ _ _ _; refine Call0 (c_spec_l1NumB (s.length : Nat) (by omega) (by omega)) rfl rfl ?_)
    | refine ix_map_at hx ?_
    | refine ix_map_at hy ?_
    | refine sl_pre (by omega) (fun _ => rfl) ?_
    | refine sl_suf (by omega) (fun _ => rfl) ?_
    | (refine ix_map2 hx (by omega) (by (try simp only [List.length_take]); omega) (fun y hy => ?_); try simp only [Int.toNat_natCast] at hy)
    | (refine ix_map (by omega) (by (try simp only [List.length_take]); omega) (fun x hx => ?_); try simp only [Int.toNat_natCast] at hx)
    | refine side_and (side_of (by first | (and_intros <;> first | exact Nat.le_of_ble_eq_true rfl | rfl | omega | (simp only [lensB, lensC, List.length_replicate, midL_len, mkL_length]; omega) | exact bytes_ok (Nat.le_of_ble_eq_true rfl) (by omega) (by simp only [lensB, lensC, List.length_replicate, midL_len, mkL_length]; omega) | exact bytes_okN (Nat.le_of_ble_eq_true rfl) (by simp only [lensB, lensC, List.length_replicate, midL_len, mkL_length]; omega)) | fail)) ?_
    | refine nilB_intro (fun h => ?_) ?_
    | refine side_and (side_of (show Go.Ab.structOk _ _ = true by kernel_rfl)) ?_
    | refine side_and (side_of (map_len (fun _ => rfl))) ?_
    | refine side_and (side_of (map_one (fun _ => rfl) _)) ?_
    | refine side_and ?_ ?_
    | refine LoadK_of rfl rfl ?_
    | refine LoadD_cel rfl rfl rfl rfl ?_
    | refine LoadD_of rfl ?_
    | refine StoreD_of rfl rfl rfl ?_
    | refine AppD_of rfl (by and_intros <;> first | rfl | decide) (by simp only [lensC]; first | (refine ⟨by omega, ?_⟩; refine Nat.le_trans (Nat.mul_le_mul_left _ (show _ ≤ 512 by decide)) ?_; omega) | fail) ?_
    | refine AppN_of rfl rfl (by and_intros <;> rfl) (by simp only [lensC]; first | (refine ⟨by omega, ?_⟩; refine Nat.le_trans (Nat.mul_le_mul_left _ (show _ ≤ 512 by decide)) ?_; omega) | fail) ?_
    | (show False; omega)
  all_goals
    conv => whnf
    refine OutA_plain rfl rfl ?_
    first
    | rfl
    | (simp_all [textB, named, AV.sub, AV.sub.subL]; done)
    | (simp_all [textB, named, AV.sub, AV.sub.subL] <;> omega)
theorem c_impl_flagByte (b : Bool) : PC Tryz.prog false 192 [.bool b] (.str (flagB b)) [] := by
  refine pc_at Tryz.func192 rfl (by kernel_rfl) 4 [.tmp 2] rfl rfl ?_
  repeat' (conv => whnf); first
    | refine nameB_true ?_
    | refine nameB_false ?_
    | refine nameB_yes (by assumption) ?_
    | refine nameB_no (by assumption) ?_
    | refine nameB_dyes (by assumption) ?_
    | refine nameB_dno (by assumption) ?_
    | (refine nameB_dec (fun h => ?_) (fun h => ?_) <;> try simp only [lensB, midL_len, mkL_length, Int.toNat_natCast, fact_byte] at h)
    | (refine nameB_cases (fun h => ?_) (fun h => ?_) <;> try simp only [bne_iff_ne, ne_eq, bne_eq_false_iff_eq, beq_iff_eq, beq_eq_false_iff_ne, Bool.not_eq_true', Bool.not_eq_false', Bool.or_eq_true, Bool.or_eq_false_iff, lensB, midL_len, mkL_length, Int.toNat_natCast, fact_byte] at h)
    | refine splitB_true ?_
    | refine splitB_false ?_
    | (refine splitB_intro (fun h => ?_) (fun h => ?_) <;> subst h)
    | refine draw_text (by kernel_rfl) (by kernel_rfl) (by kernel_rfl) ?_
    | refine both_intro ?_ ?_
    | refine eitherB_l ?_
    | exact True.intro
    | refine ix_map_at hx ?_
    | refine ix_map_at hy ?_
    | refine sl_pre (by omega) (fun _ => rfl) ?_
    | refine sl_suf (by omega) (fun _ => rfl) ?_
    | (refine ix_map2 hx (by omega) (by (try simp only [List.length_take]); omega) (fun y hy => ?_); try simp only [Int.toNat_natCast] at hy)
    | (refine ix_map (by omega) (by (try simp only [List.length_take]); omega) (fun x hx => ?_); try simp only [Int.toNat_natCast] at hx)
    | refine side_and (side_of (by first | (and_intros <;> first | exact Nat.le_of_ble_eq_true rfl | rfl | omega | (simp only [lensB, lensC, List.length_replicate, midL_len, mkL_length]; omega) | exact bytes_ok (Nat.le_of_ble_eq_true rfl) (by omega) (by simp only [lensB, lensC, List.length_replicate, midL_len, mkL_length]; omega) | exact bytes_okN (Nat.le_of_ble_eq_true rfl) (by simp only [lensB, lensC, List.length_replicate, midL_len, mkL_length]; omega)) | fail)) ?_
    | refine nilB_intro (fun h => ?_) ?_
    | refine side_and (side_of (show Go.Ab.structOk _ _ = true by kernel_rfl)) ?_
    | refine side_and (side_of (map_len (fun _ => rfl))) ?_
    | refine side_and (side_of (map_one (fun _ => rfl) _)) ?_
    | refine side_and ?_ ?_
    | refine LoadK_of rfl rfl ?_
    | refine LoadD_cel rfl rfl rfl rfl ?_
    | refine LoadD_of rfl ?_
    | refine StoreD_of rfl rfl rfl ?_
    | refine AppD_of rfl (by and_intros <;> first | rfl | decide) (by simp only [lensC]; first | (refine ⟨by omega, ?_⟩; refine Nat.le_trans (Nat.mul_le_mul_left _ (show _ ≤ 512 by decide)) ?_; omega) | fail) ?_
    | refine AppN_of rfl rfl (by and_intros <;> rfl) (by simp only [lensC]; first | (refine ⟨by omega, ?_⟩; refine Nat.le_trans (Nat.mul_le_mul_left _ (show _ ≤ 512 by decide)) ?_; omega) | fail) ?_
    | (show False; omega)
  all_goals
    conv => whnf
    exact OutA_plain rfl rfl rfl
theorem c_spec_l4Flag (b : Bool) : PC Tryz.prog false 169 [.bool b] (.str (flagB b)) [] := by
  refine pc_at Tryz.func169 rfl (by kernel_rfl) 4 [.tmp 2] rfl rfl ?_
  repeat' (conv => whnf); first
    | refine nameB_true ?_
    | refine nameB_false ?_
    | refine nameB_yes (by assumption) ?_
    | refine nameB_no (by assumption) ?_
    | refine nameB_dyes (by assumption) ?_
    | refine nameB_dno (by assumption) ?_
    | (refine nameB_dec (fun h => ?_) (fun h => ?_) <;> try simp only [lensB, midL_len, mkL_length, Int.toNat_natCast, fact_byte] at h)
    | (refine nameB_cases (fun h => ?_) (fun h => ?_) <;> try simp only [bne_iff_ne, ne_eq, bne_eq_false_iff_eq, beq_iff_eq, beq_eq_false_iff_ne, Bool.not_eq_true', Bool.not_eq_false', Bool.or_eq_true, Bool.or_eq_false_iff, lensB, midL_len, mkL_length, Int.toNat_natCast, fact_byte] at h)
    | refine splitB_true ?_
    | refine splitB_false ?_
    | (refine splitB_intro (fun h => ?_) (fun h => ?_) <;> subst h)
    | refine draw_text (by kernel_rfl) (by kernel_rfl) (by kernel_rfl) ?_
    | refine both_intro ?_ ?_
    | refine eitherB_l ?_
    | exact True.intro
    | refine ix_map_at hx ?_
    | refine ix_map_at hy ?_
    | refine sl_pre (by omega) (fun _ => rfl) ?_
    | refine sl_suf (by omega) (fun _ => rfl) ?_
    | (refine ix_map2 hx (by omega) (by (try simp only [List.length_take]); omega) (fun y hy => ?_); try simp only [Int.toNat_natCast] at hy)
    | (refine ix_map (by omega) (by (try simp only [List.length_take]); omega) (fun x hx => ?_); try simp only [Int.toNat_natCast] at hx)
    | refine side_and (side_of (by first | (and_intros <;> first | exact Nat.le_of_ble_eq_true rfl | rfl | omega | (simp only [lensB, lensC, List.length_replicate, midL_len, mkL_length]; omega) | exact bytes_ok (Nat.le_of_ble_eq_true rfl) (by omega) (by simp only [lensB, lensC, List.length_replicate, midL_len, mkL_length]; omega) | exact bytes_okN (Nat.le_of_ble_eq_true rfl) (by simp only [lensB, lensC, List.length_replicate, midL_len, mkL_length]; omega)) | fail)) ?_
    | refine nilB_intro (fun h => ?_) ?_
    | refine side_and (side_of (show Go.Ab.structOk _ _ = true by kernel_rfl)) ?_
    | refine side_and (side_of (map_len (fun _ => rfl))) ?_
    | refine side_and (side_of (map_one (fun _ => rfl) _)) ?_
    | refine side_and ?_ ?_
    | refine LoadK_of rfl rfl ?_
    | refine LoadD_cel rfl rfl rfl rfl ?_
    | refine LoadD_of rfl ?_
    | refine StoreD_of rfl rfl rfl ?_
    | refine AppD_of rfl (by and_intros <;> first | rfl | decide) (by simp only [lensC]; first | (refine ⟨by omega, ?_⟩; refine Nat.le_trans (Nat.mul_le_mul_left _ (show _ ≤ 512 by decide)) ?_; omega) | fail) ?_
    | refine AppN_of rfl rfl (by and_intros <;> rfl) (by simp only [lensC]; first | (refine ⟨by omega, ?_⟩; refine Nat.le_trans (Nat.mul_le_mul_left _ (show _ ≤ 512 by decide)) ?_; omega) | fail) ?_
    | (show False; omega)
  all_goals
    conv => whnf
    exact OutA_plain rfl rfl rfl
theorem c_impl_textsBytes (l : List (List UInt8)) (hwl : wL List.length l ≤ 1048576) : PC Tryz.prog false 193 [.sl (l.map strC)] (.str (textsB l)) [] := by
  have hl : l.length ≤ wL List.length l := wL_len
  have hn := numB_len (l.length : Nat)
  have hg := textsG_len l
  refine pc_at Tryz.func193 rfl (by kernel_rfl) 21 [.tmp 2] rfl rfl ?_
  repeat' (conv => whnf); first
    | (refine ix_as (f := strC) (m := k) rfl (by omega) (fun x hx => ?_))
    | exact side_of (by first | (have h1 := textsG_take l k; have h2 := textB_len x; have h3 := (wL_mem (w := List.length) (List.mem_of_getElem? hx)).2; simp only [List.length_append]; omega) | fail)
    | refine nameB_true ?_
    | refine nameB_false ?_
    | refine nameB_yes (by assumption) ?_
    | refine nameB_no (by assumption) ?_
    | refine nameB_dyes (by assumption) ?_
    | refine nameB_dno (by assumption) ?_
    | (refine nameB_dec (fun h => ?_) (fun h => ?_) <;> try simp only [lensB, midL_len, mkL_length, Int.toNat_natCast, fact_byte] at h)
    | (refine nameB_cases (fun h => ?_) (fun h => ?_) <;> try simp only [bne_iff_ne, ne_eq, bne_eq_false_iff_eq, beq_iff_eq, beq_eq_false_iff_ne, Bool.not_eq_true', Bool.not_eq_false', Bool.or_eq_true, Bool.or_eq_false_iff, lensB, midL_len, mkL_length, Int.toNat_natCast, fact_byte] at h)
    | refine splitB_true ?_
    | refine splitB_false ?_
    | (refine splitB_intro (fun h => ?_) (fun h => ?_) <;> subst h)
    | refine draw_text (by kernel_rfl) (by kernel_rfl) (by kernel_rfl) ?_
    | refine both_intro ?_ ?_
    | refine eitherB_l ?_
    | exact True.intro
    | (show Go.Ab.Loop _ _ _; (refine Loop_at [9, 10] [] (Nat) (fun k => k ≤ l.length) (fun k => [(11, .int .i64 (k : Nat)), (3, .str (numB (l.length : Nat) ++ textsG (l.take k)))]) (fun k => []) (fun k => l.length - k) 0 ⟨by first | first | exact congrArg AV.str (textsG_next hx) | exact congrArg AV.str (by simp [textsG]) | rfl | fail, by first | rfl | first | exact congrArg AV.str (textsG_next hx) | exact congrArg AV.str (by simp [textsG]) | fail, trivial⟩ trivial (by (try dsimp only); first | (exact Nat.zero_le _) | fail) ?_; (conv => whnf); refine side_and (side_of (by first | exact fun k => rfl | exact fun k => by simp [headOk, closedE, closedO, closedL, AV.closed, hcap.closed, hasId, AObj.box, BK.ofB])) ?_; rintro k hT; try dsimp only at hT))
    | (show Go.Ab.Again _ _ _ _ _ _ _ _ _ _ _; refine Again_of (k + 1) ⟨by first | rfl | exact i64_next (by omega) | first | exact congrArg AV.str (textsG_next hx) | exact congrArg AV.str (by simp [textsG]) | fail, by first | rfl | first | exact congrArg AV.str (textsG_next hx) | exact congrArg AV.str (by simp [textsG]) | fail, trivial⟩ trivial (by first | (and_intros <;> first | rfl | trivial) | fail) (by first | (and_intros <;> first | rfl | trivial) | fail) rfl rfl rfl (by (try dsimp only); first | ((show k + 1 ≤ _; omega)) | fail) (show _ < _ by (try dsimp only); omega))
    | (show Go.Ab.CallA _ _ _ _ _ _ _; first
        | refine Call0 (c_impl_numBytes (l.length : Nat) (by omega) (by omega)) (congrArg (fun n : Nat => [AV.int .i64 (n : Int)]) (List.length_map strC)) rfl ?_
        | refine Call0 (c_impl_textBytes x (Nat.le_trans (wL_mem (List.mem_of_getElem? hx)).2 hwl)) rfl rfl ?_)
    | refine ix_map_at hx ?_
    | refine ix_map_at hy ?_
    | refine sl_pre (by omega) (fun _ => rfl) ?_
    | refine sl_suf (by omega) (fun _ => rfl) ?_
    | (refine ix_map2 hx (by omega) (by (try simp only [List.length_take]); omega) (fun y hy => ?_); try simp only [Int.toNat_natCast] at hy)
    | (refine ix_map (by omega) (by (try simp only [List.length_take]); omega) (fun x hx => ?_); try simp only [Int.toNat_natCast] at hx)
    | refine side_and (side_of (by first | (and_intros <;> first | exact Nat.le_of_ble_eq_true rfl | rfl | omega | (simp only [lensB, lensC, List.length_replicate, midL_len, mkL_length]; omega) | exact bytes_ok (Nat.le_of_ble_eq_true rfl) (by omega) (by simp only [lensB, lensC, List.length_replicate, midL_len, mkL_length]; omega) | exact bytes_okN (Nat.le_of_ble_eq_true rfl) (by simp only [lensB, lensC, List.length_replicate, midL_len, mkL_length]; omega)) | fail)) ?_
    | refine nilB_intro (fun h => ?_) ?_
    | refine side_and (side_of (show Go.Ab.structOk _ _ = true by kernel_rfl)) ?_
    | refine side_and (side_of (map_len (fun _ => rfl))) ?_
    | refine side_and (side_of (map_one (fun _ => rfl) _)) ?_
    | refine side_and ?_ ?_
    | refine LoadK_of rfl rfl ?_
    | refine LoadD_cel rfl rfl rfl rfl ?_
    | refine LoadD_of rfl ?_
    | refine StoreD_of rfl rfl rfl ?_
    | refine AppD_of rfl (by and_intros <;> first | rfl | decide) (by simp only [lensC]; first | (refine ⟨by omega, ?_⟩; refine Nat.le_trans (Nat.mul_le_mul_left _ (show _ ≤ 512 by decide)) ?_; omega) | fail) ?_
    | refine AppN_of rfl rfl (by and_intros <;> rfl) (by simp only [lensC]; first | (refine ⟨by omega, ?_⟩; refine Nat.le_trans (Nat.mul_le_mul_left _ (show _ ≤ 512 by decide)) ?_; omega) | fail) ?_
    | (show False; omega)
  all_goals
    conv => whnf
    refine OutA_plain rfl rfl ?_
    exact congrArg (fun m : List (List UInt8) => AV.str (numB (l.length : Nat) ++ textsG m)) (List.take_of_length_le (by omega))
theorem c_spec_l1TextsB (l : List (List UInt8)) (hwl : wL List.length l ≤ 1048576) : PC Tryz.prog false 170 [.sl (l.map strC)] (.str (textsB l)) [] := by
  have hl : l.length ≤ wL List.length l := wL_len
  have hn := numB_len (l.length : Nat)
  have hg := textsG_len l
  refine pc_at Tryz.func170 rfl (by kernel_rfl) 21 [.tmp 2] rfl rfl ?_
  repeat' (conv => whnf); first
    | (refine ix_as (f := strC) (m := k) rfl (by omega) (fun x hx => ?_))
    | exact side_of (by first | (have h1 := textsG_take l k; have h2 := textB_len x; have h3 := (wL_mem (w := List.length) (List.mem_of_getElem? hx)).2; simp only [List.length_append]; omega) | fail)
    | refine nameB_true ?_
    | refine nameB_false ?_
    | refine nameB_yes (by assumption) ?_
    | refine nameB_no (by assumption) ?_
    | refine nameB_dyes (by assumption) ?_
    | refine nameB_dno (by assumption) ?_
    | (refine nameB_dec (fun h => ?_) (fun h => ?_) <;> try simp only [lensB, midL_len, mkL_length, Int.toNat_natCast, fact_byte] at h)
    | (refine nameB_cases (fun h => ?_) (fun h => ?_) <;> try simp only [bne_iff_ne, ne_eq, bne_eq_false_iff_eq, beq_iff_eq, beq_eq_false_iff_ne, Bool.not_eq_true', Bool.not_eq_false', Bool.or_eq_true, Bool.or_eq_false_iff, lensB, midL_len, mkL_length, Int.toNat_natCast, fact_byte] at h)
    | refine splitB_true ?_
    | refine splitB_false ?_
    | (refine splitB_intro (fun h => ?_) (fun h => ?_) <;> subst h)
    | refine draw_text (by kernel_rfl) (by kernel_rfl) (by kernel_rfl) ?_
    | refine both_intro ?_ ?_
    | refine eitherB_l ?_
    | exact True.intro
    | (show Go.Ab.Loop _ _ _; (refine Loop_at [9, 10] [] (Nat) (fun k => k ≤ l.length) (fun k => [(11, .int .i64 (k : Nat)), (3, .str (numB (l.length : Nat) ++ textsG (l.take k)))]) (fun k => []) (fun k => l.length - k) 0 ⟨by first | first | exact congrArg AV.str (textsG_next hx) | exact congrArg AV.str (by simp [textsG]) | rfl | fail, by first | rfl | first | exact congrArg AV.str (textsG_next hx) | exact congrArg AV.str (by simp [textsG]) | fail, trivial⟩ trivial (by (try dsimp only); first | (exact Nat.zero_le _) | fail) ?_; (conv => whnf); refine side_and (side_of (by first | exact fun k => rfl | exact fun k => by simp [headOk, closedE, closedO, closedL, AV.closed, hcap.closed, hasId, AObj.box, BK.ofB])) ?_; rintro k hT; try dsimp only at hT))
    | (show Go.Ab.Again _ _ _ _ _ _ _ _ _ _ _; refine Again_of (k + 1) ⟨by first | rfl | exact i64_next (by omega) | first | exact congrArg AV.str (textsG_next hx) | exact congrArg AV.str (by simp [textsG]) | fail, by first | rfl | first | exact congrArg AV.str (textsG_next hx) | exact congrArg AV.str (by simp [textsG]) | fail, trivial⟩ trivial (by first | (and_intros <;> first | rfl | trivial) | fail) (by first | (and_intros <;> first | rfl | trivial) | fail) rfl rfl rfl (by (try dsimp only); first | ((show k + 1 ≤ _; omega)) | fail) (show _ < _ by (try dsimp only); omega))
    | (show Go.Ab.CallA _ _ _ _ _ _ _; first
        | refine Call0 (c_spec_l1NumB (l.length : Nat) (by omega) (by omega)) (congrArg (fun n : Nat => [AV.int .i64 (n : Int)]) (List.length_map strC)) rfl ?_
        | refine Call0 (c_spec_l1TextB x (Nat.le_trans (wL_mem (List.mem_of_getElem? hx)).2 hwl)) rfl rfl ?_)
    | refine ix_map_at hx ?_
    | refine ix_map_at hy ?_
    | refine sl_pre (by omega) (fun _ => rfl) ?_
    | refine sl_suf (by omega) (fun _ => rfl) ?_
    | (refine ix_map2 hx (by omega) (by (try simp only [List.length_take]); omega) (fun y hy => ?_); try simp only [Int.toNat_natCast] at hy)
    | (refine ix_map (by omega) (by (try simp only [List.length_take]); omega) (fun x hx => ?_); try simp only [Int.toNat_natCast] at hx)
    | refine side_and (side_of (by first | (and_intros <;> first | exact Nat.le_of_ble_eq_true rfl | rfl | omega | (simp only [lensB, lensC, List.length_replicate, midL_len, mkL_length]; omega) | exact bytes_ok (Nat.le_of_ble_eq_true rfl) (by omega) (by simp only [lensB, lensC, List.length_replicate, midL_len, mkL_length]; omega) | exact bytes_okN (Nat.le_of_ble_eq_true rfl) (by simp only [lensB, lensC, List.length_replicate, midL_len, mkL_length]; omega)) | fail)) ?_
    | refine nilB_intro (fun h => ?_) ?_
    | refine side_and (side_of (show Go.Ab.structOk _ _ = true by kernel_rfl)) ?_
    | refine side_and (side_of (map_len (fun _ => rfl))) ?_
    | refine side_and (side_of (map_one (fun _ => rfl) _)) ?_
    | refine side_and ?_ ?_
    | refine LoadK_of rfl rfl ?_
    | refine LoadD_cel rfl rfl rfl rfl ?_
    | refine LoadD_of rfl ?_
    | refine StoreD_of rfl rfl rfl ?_
    | refine AppD_of rfl (by and_intros <;> first | rfl | decide) (by simp only [lensC]; first | (refine ⟨by omega, ?_⟩; refine Nat.le_trans (Nat.mul_le_mul_left _ (show _ ≤ 512 by decide)) ?_; omega) | fail) ?_
    | refine AppN_of rfl rfl (by and_intros <;> rfl) (by simp only [lensC]; first | (refine ⟨by omega, ?_⟩; refine Nat.le_trans (Nat.mul_le_mul_left _ (show _ ≤ 512 by decide)) ?_; omega) | fail) ?_
    | (show False; omega)
  all_goals
    conv => whnf
    refine OutA_plain rfl rfl ?_
    exact congrArg (fun m : List (List UInt8) => AV.str (numB (l.length : Nat) ++ textsG m)) (List.take_of_length_le (by omega))
/-! Sums. -/
def sumG (n : Int) : List UInt8 → Int
  | [] => n
  | b :: bs => sumG ((31 * n + b.toNat + 1) % 16000057) bs
def sumB (s : List UInt8) : Int := sumG 7 s
theorem sumG_in : ∀ (s : List UInt8) (n : Int), 0 ≤ n ∧ n < 16000057 → 0 ≤ sumG n s ∧ sumG n s < 16000057
  | [], n, h => h
  | b :: bs, n, h => sumG_in bs _ (by omega)
theorem sum_go {n : Int} {s : List UInt8} {k : Nat} {B : Int} (h : sumG n (s.drop k) = B) (hk : k < s.length) : sumG ((31 * n + ((s.getD k 0).toNat : Int) + 1) % 16000057) (s.drop (k + 1)) = B := by
  rw [List.drop_eq_getElem_cons hk] at h
  unfold sumG at h
  rw [List.getD_eq_getElem?_getD, List.getElem?_eq_getElem hk]
  exact h
theorem sum_end {n : Int} {s : List UInt8} {k : Nat} {B : Int} (h : sumG n (s.drop k) = B) (hk : ¬ (k : Int) < s.length) : n = B := by
  rw [List.drop_eq_nil_of_le (by omega)] at h
  exact h
theorem sum_w {n : Int} {b : UInt8} (h0 : 0 ≤ n) (h1 : n < 16000057) : (IntKind.i64.wrap (IntKind.i64.wrap (IntKind.i64.wrap (31 * n) + IntKind.i64.wrap (b.toNat : Int)) + 1)).tmod 16000057 = (31 * n + (b.toNat : Int) + 1) % 16000057 := by
  have hb : b.toNat < 256 := b.toNat_lt
  rw [i64_wrap (e := 31 * n) (by omega) (by omega), i64_wrap (e := (b.toNat : Int)) (by omega) (by omega), i64_wrap (e := 31 * n + (b.toNat : Int)) (by omega) (by omega), i64_wrap (by omega) (by omega), Int.tmod_eq_emod_of_nonneg (by omega)]
theorem c_impl_sumOf (s : List UInt8) (h : s.length ≤ 1073741824) : PC Tryz.prog false 201 [.str s] (.int .i64 (sumB s)) [] := by
  refine pc_at Tryz.func201 rfl (by kernel_rfl) 21 [.tmp 2] rfl rfl ?_
  repeat' (conv => whnf); first
    | refine nameB_true ?_
    | refine nameB_false ?_
    | refine nameB_yes (by assumption) ?_
    | refine nameB_no (by assumption) ?_
    | refine nameB_dyes (by assumption) ?_
    | refine nameB_dno (by assumption) ?_
    | (refine nameB_dec (fun h => ?_) (fun h => ?_) <;> try simp only [lensB, midL_len, mkL_length, Int.toNat_natCast, fact_byte] at h)
    | (refine nameB_cases (fun h => ?_) (fun h => ?_) <;> try simp only [bne_iff_ne, ne_eq, bne_eq_false_iff_eq, beq_iff_eq, beq_eq_false_iff_ne, Bool.not_eq_true', Bool.not_eq_false', Bool.or_eq_true, Bool.or_eq_false_iff, lensB, midL_len, mkL_length, Int.toNat_natCast, fact_byte] at h)
    | refine splitB_true ?_
    | refine splitB_false ?_
    | (refine splitB_intro (fun h => ?_) (fun h => ?_) <;> subst h)
    | refine draw_text (by kernel_rfl) (by kernel_rfl) (by kernel_rfl) ?_
    | refine both_intro ?_ ?_
    | refine eitherB_l ?_
    | exact True.intro
    | (show Go.Ab.Loop _ _ _; (refine Loop_at [0, 6] [] (Nat × Int) (fun j => match j with | (k, n) => sumG n (s.drop k) = sumB s ∧ k ≤ s.length ∧ 0 ≤ n ∧ n < 16000057) (fun j => match j with | (k, n) => [(3, .int .i64 n), (7, .int .i64 (k : Nat))]) (fun j => match j with | (k, n) => []) (fun j => match j with | (k, n) => s.length - k) (0, 7) ⟨by first | first | rfl | exact congrArg (AV.int .i64) (sum_w hT.2.2.1 hT.2.2.2) | rfl | fail, by first | first | rfl | exact congrArg (AV.int .i64) (sum_w hT.2.2.1 hT.2.2.2) | rfl | fail, trivial⟩ trivial (by (try dsimp only); first | (exact ⟨rfl, Nat.zero_le _, by decide, by decide⟩) | fail) ?_; (conv => whnf); refine side_and (side_of (by first | exact fun ⟨k, n⟩ => rfl | exact fun ⟨k, n⟩ => by simp [headOk, closedE, closedO, closedL, AV.closed, hcap.closed, hasId, AObj.box, BK.ofB])) ?_; rintro ⟨k, n⟩ hT; try dsimp only at hT))
    | (show Go.Ab.Again _ _ _ _ _ _ _ _ _ _ _; refine Again_of (k + 1, (31 * n + ((s.getD k 0).toNat : Int) + 1) % 16000057) ⟨by first | first | rfl | exact congrArg (AV.int .i64) (sum_w hT.2.2.1 hT.2.2.2) | rfl | fail, by first | rfl | exact i64_next (by omega) | first | rfl | exact congrArg (AV.int .i64) (sum_w hT.2.2.1 hT.2.2.2) | fail, trivial⟩ trivial (by first | (and_intros <;> first | rfl | trivial) | fail) (by first | (and_intros <;> first | rfl | trivial) | fail) rfl rfl rfl (by (try dsimp only); first | (exact ⟨sum_go hT.1 (by omega), by omega, by omega, by omega⟩) | fail) (show _ < _ by (try dsimp only); omega))
    | refine ix_map_at hx ?_
    | refine ix_map_at hy ?_
    | refine sl_pre (by omega) (fun _ => rfl) ?_
    | refine sl_suf (by omega) (fun _ => rfl) ?_
    | (refine ix_map2 hx (by omega) (by (try simp only [List.length_take]); omega) (fun y hy => ?_); try simp only [Int.toNat_natCast] at hy)
    | (refine ix_map (by omega) (by (try simp only [List.length_take]); omega) (fun x hx => ?_); try simp only [Int.toNat_natCast] at hx)
    | refine side_and (side_of (by first | (and_intros <;> first | exact Nat.le_of_ble_eq_true rfl | rfl | omega | (simp only [lensB, lensC, List.length_replicate, midL_len, mkL_length]; omega) | exact bytes_ok (Nat.le_of_ble_eq_true rfl) (by omega) (by simp only [lensB, lensC, List.length_replicate, midL_len, mkL_length]; omega) | exact bytes_okN (Nat.le_of_ble_eq_true rfl) (by simp only [lensB, lensC, List.length_replicate, midL_len, mkL_length]; omega)) | fail)) ?_
    | refine nilB_intro (fun h => ?_) ?_
    | refine side_and (side_of (show Go.Ab.structOk _ _ = true by kernel_rfl)) ?_
    | refine side_and (side_of (map_len (fun _ => rfl))) ?_
    | refine side_and (side_of (map_one (fun _ => rfl) _)) ?_
    | refine side_and ?_ ?_
    | refine LoadK_of rfl rfl ?_
    | refine LoadD_cel rfl rfl rfl rfl ?_
    | refine LoadD_of rfl ?_
    | refine StoreD_of rfl rfl rfl ?_
    | refine AppD_of rfl (by and_intros <;> first | rfl | decide) (by simp only [lensC]; first | (refine ⟨by omega, ?_⟩; refine Nat.le_trans (Nat.mul_le_mul_left _ (show _ ≤ 512 by decide)) ?_; omega) | fail) ?_
    | refine AppN_of rfl rfl (by and_intros <;> rfl) (by simp only [lensC]; first | (refine ⟨by omega, ?_⟩; refine Nat.le_trans (Nat.mul_le_mul_left _ (show _ ≤ 512 by decide)) ?_; omega) | fail) ?_
    | (show False; omega)
  all_goals
    conv => whnf
    refine OutA_plain rfl rfl ?_
    exact congrArg (AV.int .i64) (sum_end hT.1 (by omega))
theorem c_spec_l1Sum (s : List UInt8) (h : s.length ≤ 1073741824) : PC Tryz.prog false 168 [.str s] (.int .i64 (sumB s)) [] := by
  refine pc_at Tryz.func168 rfl (by kernel_rfl) 21 [.tmp 2] rfl rfl ?_
  repeat' (conv => whnf); first
    | refine nameB_true ?_
    | refine nameB_false ?_
    | refine nameB_yes (by assumption) ?_
    | refine nameB_no (by assumption) ?_
    | refine nameB_dyes (by assumption) ?_
    | refine nameB_dno (by assumption) ?_
    | (refine nameB_dec (fun h => ?_) (fun h => ?_) <;> try simp only [lensB, midL_len, mkL_length, Int.toNat_natCast, fact_byte] at h)
    | (refine nameB_cases (fun h => ?_) (fun h => ?_) <;> try simp only [bne_iff_ne, ne_eq, bne_eq_false_iff_eq, beq_iff_eq, beq_eq_false_iff_ne, Bool.not_eq_true', Bool.not_eq_false', Bool.or_eq_true, Bool.or_eq_false_iff, lensB, midL_len, mkL_length, Int.toNat_natCast, fact_byte] at h)
    | refine splitB_true ?_
    | refine splitB_false ?_
    | (refine splitB_intro (fun h => ?_) (fun h => ?_) <;> subst h)
    | refine draw_text (by kernel_rfl) (by kernel_rfl) (by kernel_rfl) ?_
    | refine both_intro ?_ ?_
    | refine eitherB_l ?_
    | exact True.intro
    | (show Go.Ab.Loop _ _ _; (refine Loop_at [0] [] (Nat × Int) (fun j => match j with | (k, n) => sumG n (s.drop k) = sumB s ∧ k ≤ s.length ∧ 0 ≤ n ∧ n < 16000057) (fun j => match j with | (k, n) => [(3, .int .i64 n), (4, .int .i64 (k : Nat))]) (fun j => match j with | (k, n) => []) (fun j => match j with | (k, n) => s.length - k) (0, 7) ⟨by first | first | rfl | exact congrArg (AV.int .i64) (sum_w hT.2.2.1 hT.2.2.2) | rfl | fail, by first | first | rfl | exact congrArg (AV.int .i64) (sum_w hT.2.2.1 hT.2.2.2) | rfl | fail, trivial⟩ trivial (by (try dsimp only); first | (exact ⟨rfl, Nat.zero_le _, by decide, by decide⟩) | fail) ?_; (conv => whnf); refine side_and (side_of (by first | exact fun ⟨k, n⟩ => rfl | exact fun ⟨k, n⟩ => by simp [headOk, closedE, closedO, closedL, AV.closed, hcap.closed, hasId, AObj.box, BK.ofB])) ?_; rintro ⟨k, n⟩ hT; try dsimp only at hT))
    | (show Go.Ab.Again _ _ _ _ _ _ _ _ _ _ _; refine Again_of (k + 1, (31 * n + ((s.getD k 0).toNat : Int) + 1) % 16000057) ⟨by first | first | rfl | exact congrArg (AV.int .i64) (sum_w hT.2.2.1 hT.2.2.2) | rfl | fail, by first | rfl | exact i64_next (by omega) | first | rfl | exact congrArg (AV.int .i64) (sum_w hT.2.2.1 hT.2.2.2) | fail, trivial⟩ trivial (by first | (and_intros <;> first | rfl | trivial) | fail) (by first | (and_intros <;> first | rfl | trivial) | fail) rfl rfl rfl (by (try dsimp only); first | (exact ⟨sum_go hT.1 (by omega), by omega, by omega, by omega⟩) | fail) (show _ < _ by (try dsimp only); omega))
    | refine ix_map_at hx ?_
    | refine ix_map_at hy ?_
    | refine sl_pre (by omega) (fun _ => rfl) ?_
    | refine sl_suf (by omega) (fun _ => rfl) ?_
    | (refine ix_map2 hx (by omega) (by (try simp only [List.length_take]); omega) (fun y hy => ?_); try simp only [Int.toNat_natCast] at hy)
    | (refine ix_map (by omega) (by (try simp only [List.length_take]); omega) (fun x hx => ?_); try simp only [Int.toNat_natCast] at hx)
    | refine side_and (side_of (by first | (and_intros <;> first | exact Nat.le_of_ble_eq_true rfl | rfl | omega | (simp only [lensB, lensC, List.length_replicate, midL_len, mkL_length]; omega) | exact bytes_ok (Nat.le_of_ble_eq_true rfl) (by omega) (by simp only [lensB, lensC, List.length_replicate, midL_len, mkL_length]; omega) | exact bytes_okN (Nat.le_of_ble_eq_true rfl) (by simp only [lensB, lensC, List.length_replicate, midL_len, mkL_length]; omega)) | fail)) ?_
    | refine nilB_intro (fun h => ?_) ?_
    | refine side_and (side_of (show Go.Ab.structOk _ _ = true by kernel_rfl)) ?_
    | refine side_and (side_of (map_len (fun _ => rfl))) ?_
    | refine side_and (side_of (map_one (fun _ => rfl) _)) ?_
    | refine side_and ?_ ?_
    | refine LoadK_of rfl rfl ?_
    | refine LoadD_cel rfl rfl rfl rfl ?_
    | refine LoadD_of rfl ?_
    | refine StoreD_of rfl rfl rfl ?_
    | refine AppD_of rfl (by and_intros <;> first | rfl | decide) (by simp only [lensC]; first | (refine ⟨by omega, ?_⟩; refine Nat.le_trans (Nat.mul_le_mul_left _ (show _ ≤ 512 by decide)) ?_; omega) | fail) ?_
    | refine AppN_of rfl rfl (by and_intros <;> rfl) (by simp only [lensC]; first | (refine ⟨by omega, ?_⟩; refine Nat.le_trans (Nat.mul_le_mul_left _ (show _ ≤ 512 by decide)) ?_; omega) | fail) ?_
    | (show False; omega)
  all_goals
    conv => whnf
    refine OutA_plain rfl rfl ?_
    exact congrArg (AV.int .i64) (sum_end hT.1 (by omega))
def threeB (n : Int) : List UInt8 := [byt (n / 65536), byt (n / 256), byt n]
def sealB (s : List UInt8) : List UInt8 := s ++ threeB (sumB s)
theorem t1 {n : Int} (h : 0 ≤ n) (h' : n < 16000057) : IntKind.u8.wrap (IntKind.i64.wrap (n.tdiv 65536)) = ((byt (n / 65536)).toNat : Int) := by
  rw [u8w, byt_toNat, Int.tdiv_eq_ediv_of_nonneg h, i64_wrap (by omega) (by omega)]
theorem t2 {n : Int} (h : 0 ≤ n) (h' : n < 16000057) : IntKind.u8.wrap ((IntKind.i64.wrap (n.tdiv 256)).tmod 256) = ((byt (n / 256)).toNat : Int) := by
  rw [u8w, byt_toNat, Int.tdiv_eq_ediv_of_nonneg h, i64_wrap (by omega) (by omega), Int.tmod_eq_emod_of_nonneg (by omega)]; omega
theorem t3 {n : Int} (h : 0 ≤ n) : IntKind.u8.wrap (n.tmod 256) = ((byt n).toNat : Int) := by
  rw [u8w, byt_toNat, Int.tmod_eq_emod_of_nonneg h]; omega
theorem p16 : (2 : Int) ^ (min (16 : Int).toNat IntKind.i64.bits) = 65536 := by decide
theorem p8 : (2 : Int) ^ (min (8 : Int).toNat IntKind.i64.bits) = 256 := by decide
theorem s1 {n : Int} : IntKind.u8.wrap (n.fdiv (2 ^ (min (16 : Int).toNat IntKind.i64.bits))) = ((byt (n / 65536)).toNat : Int) := by
  rw [u8w, byt_toNat, p16, Int.fdiv_eq_ediv_of_nonneg _ (by decide)]
theorem s2 {n : Int} : IntKind.u8.wrap (n.fdiv (2 ^ (min (8 : Int).toNat IntKind.i64.bits))) = ((byt (n / 256)).toNat : Int) := by
  rw [u8w, byt_toNat, p8, Int.fdiv_eq_ediv_of_nonneg _ (by decide)]
theorem three_eq {a b c n : Int} (ha : a = ((byt (n / 65536)).toNat : Int)) (hb : b = ((byt (n / 256)).toNat : Int)) (hc : c = ((byt n).toNat : Int)) : [[AV.int .u8 a], [AV.int .u8 b], [AV.int .u8 c]] = (threeB n).map fun b => [AV.int .u8 (b.toNat : Int)] := by
  rw [ha, hb, hc]; rfl
theorem c_spec_l1Three (n : Int) (h0 : 0 ≤ n) (h1 : n < 16000057) : PC Tryz.prog false 167 [.int .i64 n] (.str (threeB n)) [] := by
  refine pc_at Tryz.func167 rfl (by kernel_rfl) 15 [.tmp 2] rfl rfl ?_
  repeat' (conv => whnf); first
    | refine nameB_true ?_
    | refine nameB_false ?_
    | refine nameB_yes (by assumption) ?_
    | refine nameB_no (by assumption) ?_
    | refine nameB_dyes (by assumption) ?_
    | refine nameB_dno (by assumption) ?_
    | (refine nameB_dec (fun h => ?_) (fun h => ?_) <;> try simp only [lensB, midL_len, mkL_length, Int.toNat_natCast, fact_byte] at h)
    | (refine nameB_cases (fun h => ?_) (fun h => ?_) <;> try simp only [bne_iff_ne, ne_eq, bne_eq_false_iff_eq, beq_iff_eq, beq_eq_false_iff_ne, Bool.not_eq_true', Bool.not_eq_false', Bool.or_eq_true, Bool.or_eq_false_iff, lensB, midL_len, mkL_length, Int.toNat_natCast, fact_byte] at h)
    | refine splitB_true ?_
    | refine splitB_false ?_
    | (refine splitB_intro (fun h => ?_) (fun h => ?_) <;> subst h)
    | refine draw_text (by kernel_rfl) (by kernel_rfl) (by kernel_rfl) ?_
    | refine both_intro ?_ ?_
    | refine eitherB_l ?_
    | exact True.intro
    | refine ix_map_at hx ?_
    | refine ix_map_at hy ?_
    | refine sl_pre (by omega) (fun _ => rfl) ?_
    | refine sl_suf (by omega) (fun _ => rfl) ?_
    | (refine ix_map2 hx (by omega) (by (try simp only [List.length_take]); omega) (fun y hy => ?_); try simp only [Int.toNat_natCast] at hy)
    | (refine ix_map (by omega) (by (try simp only [List.length_take]); omega) (fun x hx => ?_); try simp only [Int.toNat_natCast] at hx)
    | refine side_and (side_of (by first | (and_intros <;> first | exact Nat.le_of_ble_eq_true rfl | rfl | omega | (simp only [lensB, lensC, List.length_replicate, midL_len, mkL_length]; omega) | exact bytes_ok (Nat.le_of_ble_eq_true rfl) (by omega) (by simp only [lensB, lensC, List.length_replicate, midL_len, mkL_length]; omega) | exact bytes_okN (Nat.le_of_ble_eq_true rfl) (by simp only [lensB, lensC, List.length_replicate, midL_len, mkL_length]; omega)) | fail)) ?_
    | refine nilB_intro (fun h => ?_) ?_
    | refine side_and (side_of (show Go.Ab.structOk _ _ = true by kernel_rfl)) ?_
    | refine side_and (side_of (map_len (fun _ => rfl))) ?_
    | refine side_and (side_of (map_one (fun _ => rfl) _)) ?_
    | refine side_and ?_ ?_
    | refine LoadK_of rfl rfl ?_
    | refine LoadD_cel rfl rfl rfl rfl ?_
    | refine LoadD_of rfl ?_
    | refine StoreD_of rfl rfl rfl ?_
    | refine AppD_of rfl (by and_intros <;> first | rfl | decide) (by simp only [lensC]; first | (refine ⟨by omega, ?_⟩; refine Nat.le_trans (Nat.mul_le_mul_left _ (show _ ≤ 512 by decide)) ?_; omega) | fail) ?_
    | refine AppN_of rfl rfl (by and_intros <;> rfl) (by simp only [lensC]; first | (refine ⟨by omega, ?_⟩; refine Nat.le_trans (Nat.mul_le_mul_left _ (show _ ≤ 512 by decide)) ?_; omega) | fail) ?_
    | refine ⟨threeB n, three_eq (t1 h0 h1) (t2 h0 h1) (t3 h0), ?_⟩
    | (show False; omega)
  all_goals
    conv => whnf
    exact OutA_plain rfl rfl rfl
theorem c_spec_l1Seal (s : List UInt8) (h : s.length ≤ 1073741824) : PC Tryz.prog false 131 [.str s] (.str (sealB s)) [] := by
  have hs := sumG_in s 7 (by omega)
  refine pc_at Tryz.func131 rfl (by kernel_rfl) 8 [.tmp 2] rfl rfl ?_
  repeat' (conv => whnf); first
    | exact side_of (by first | (simp only [threeB, List.length_cons, List.length_nil]; omega) | fail)
    | refine nameB_true ?_
    | refine nameB_false ?_
    | refine nameB_yes (by assumption) ?_
    | refine nameB_no (by assumption) ?_
    | refine nameB_dyes (by assumption) ?_
    | refine nameB_dno (by assumption) ?_
    | (refine nameB_dec (fun h => ?_) (fun h => ?_) <;> try simp only [lensB, midL_len, mkL_length, Int.toNat_natCast, fact_byte] at h)
    | (refine nameB_cases (fun h => ?_) (fun h => ?_) <;> try simp only [bne_iff_ne, ne_eq, bne_eq_false_iff_eq, beq_iff_eq, beq_eq_false_iff_ne, Bool.not_eq_true', Bool.not_eq_false', Bool.or_eq_true, Bool.or_eq_false_iff, lensB, midL_len, mkL_length, Int.toNat_natCast, fact_byte] at h)
    | refine splitB_true ?_
    | refine splitB_false ?_
    | (refine splitB_intro (fun h => ?_) (fun h => ?_) <;> subst h)
    | refine draw_text (by kernel_rfl) (by kernel_rfl) (by kernel_rfl) ?_
    | refine both_intro ?_ ?_
    | refine eitherB_l ?_
    | exact True.intro
    | (show Go.Ab.CallA _ _ _ _ _ _ _; first
        | refine Call0 (c_spec_l1Sum s h) rfl rfl ?_
        | refine Call0 (c_spec_l1Three (sumB s) hs.1 hs.2) rfl rfl ?_)
    | refine ix_map_at hx ?_
    | refine ix_map_at hy ?_
    | refine sl_pre (by omega) (fun _ => rfl) ?_
    | refine sl_suf (by omega) (fun _ => rfl) ?_
    | (refine ix_map2 hx (by omega) (by (try simp only [List.length_take]); omega) (fun y hy => ?_); try simp only [Int.toNat_natCast] at hy)
    | (refine ix_map (by omega) (by (try simp only [List.length_take]); omega) (fun x hx => ?_); try simp only [Int.toNat_natCast] at hx)
    | refine side_and (side_of (by first | (and_intros <;> first | exact Nat.le_of_ble_eq_true rfl | rfl | omega | (simp only [lensB, lensC, List.length_replicate, midL_len, mkL_length]; omega) | exact bytes_ok (Nat.le_of_ble_eq_true rfl) (by omega) (by simp only [lensB, lensC, List.length_replicate, midL_len, mkL_length]; omega) | exact bytes_okN (Nat.le_of_ble_eq_true rfl) (by simp only [lensB, lensC, List.length_replicate, midL_len, mkL_length]; omega)) | fail)) ?_
    | refine nilB_intro (fun h => ?_) ?_
    | refine side_and (side_of (show Go.Ab.structOk _ _ = true by kernel_rfl)) ?_
    | refine side_and (side_of (map_len (fun _ => rfl))) ?_
    | refine side_and (side_of (map_one (fun _ => rfl) _)) ?_
    | refine side_and ?_ ?_
    | refine LoadK_of rfl rfl ?_
    | refine LoadD_cel rfl rfl rfl rfl ?_
    | refine LoadD_of rfl ?_
    | refine StoreD_of rfl rfl rfl ?_
    | refine AppD_of rfl (by and_intros <;> first | rfl | decide) (by simp only [lensC]; first | (refine ⟨by omega, ?_⟩; refine Nat.le_trans (Nat.mul_le_mul_left _ (show _ ≤ 512 by decide)) ?_; omega) | fail) ?_
    | refine AppN_of rfl rfl (by and_intros <;> rfl) (by simp only [lensC]; first | (refine ⟨by omega, ?_⟩; refine Nat.le_trans (Nat.mul_le_mul_left _ (show _ ≤ 512 by decide)) ?_; omega) | fail) ?_
    | (show False; omega)
  all_goals
    conv => whnf
    exact OutA_plain rfl rfl rfl
theorem c_impl_seal (s : List UInt8) (h : s.length ≤ 1073741824) : PC Tryz.prog false 182 [.str s] (.str (sealB s)) [] := by
  refine pc_at Tryz.func182 rfl (by kernel_rfl) 18 [.tmp 2] rfl rfl ?_
  repeat' (conv => whnf); first
    | exact side_of (by first | (simp only [threeB, List.length_cons, List.length_nil]; omega) | fail)
    | refine nameB_true ?_
    | refine nameB_false ?_
    | refine nameB_yes (by assumption) ?_
    | refine nameB_no (by assumption) ?_
    | refine nameB_dyes (by assumption) ?_
    | refine nameB_dno (by assumption) ?_
    | (refine nameB_dec (fun h => ?_) (fun h => ?_) <;> try simp only [lensB, midL_len, mkL_length, Int.toNat_natCast, fact_byte] at h)
    | (refine nameB_cases (fun h => ?_) (fun h => ?_) <;> try simp only [bne_iff_ne, ne_eq, bne_eq_false_iff_eq, beq_iff_eq, beq_eq_false_iff_ne, Bool.not_eq_true', Bool.not_eq_false', Bool.or_eq_true, Bool.or_eq_false_iff, lensB, midL_len, mkL_length, Int.toNat_natCast, fact_byte] at h)
    | refine splitB_true ?_
    | refine splitB_false ?_
    | (refine splitB_intro (fun h => ?_) (fun h => ?_) <;> subst h)
    | refine draw_text (by kernel_rfl) (by kernel_rfl) (by kernel_rfl) ?_
    | refine both_intro ?_ ?_
    | refine eitherB_l ?_
    | exact True.intro
    | (show Go.Ab.CallA _ _ _ _ _ _ _; refine Call0 (c_impl_sumOf s h) rfl rfl ?_)
    | refine ix_map_at hx ?_
    | refine ix_map_at hy ?_
    | refine sl_pre (by omega) (fun _ => rfl) ?_
    | refine sl_suf (by omega) (fun _ => rfl) ?_
    | (refine ix_map2 hx (by omega) (by (try simp only [List.length_take]); omega) (fun y hy => ?_); try simp only [Int.toNat_natCast] at hy)
    | (refine ix_map (by omega) (by (try simp only [List.length_take]); omega) (fun x hx => ?_); try simp only [Int.toNat_natCast] at hx)
    | refine side_and (side_of (by first | (and_intros <;> first | exact Nat.le_of_ble_eq_true rfl | rfl | omega | (simp only [lensB, lensC, List.length_replicate, midL_len, mkL_length]; omega) | exact bytes_ok (Nat.le_of_ble_eq_true rfl) (by omega) (by simp only [lensB, lensC, List.length_replicate, midL_len, mkL_length]; omega) | exact bytes_okN (Nat.le_of_ble_eq_true rfl) (by simp only [lensB, lensC, List.length_replicate, midL_len, mkL_length]; omega)) | fail)) ?_
    | refine nilB_intro (fun h => ?_) ?_
    | refine side_and (side_of (show Go.Ab.structOk _ _ = true by kernel_rfl)) ?_
    | refine side_and (side_of (map_len (fun _ => rfl))) ?_
    | refine side_and (side_of (map_one (fun _ => rfl) _)) ?_
    | refine side_and ?_ ?_
    | refine LoadK_of rfl rfl ?_
    | refine LoadD_cel rfl rfl rfl rfl ?_
    | refine LoadD_of rfl ?_
    | refine StoreD_of rfl rfl rfl ?_
    | refine AppD_of rfl (by and_intros <;> first | rfl | decide) (by simp only [lensC]; first | (refine ⟨by omega, ?_⟩; refine Nat.le_trans (Nat.mul_le_mul_left _ (show _ ≤ 512 by decide)) ?_; omega) | fail) ?_
    | refine AppN_of rfl rfl (by and_intros <;> rfl) (by simp only [lensC]; first | (refine ⟨by omega, ?_⟩; refine Nat.le_trans (Nat.mul_le_mul_left _ (show _ ≤ 512 by decide)) ?_; omega) | fail) ?_
    | refine ⟨threeB (sumB s), three_eq s1 s2 b3, ?_⟩
    | (show False; omega)
  all_goals
    conv => whnf
    exact OutA_plain rfl rfl rfl
end Go.Proofs.YtfpkfnfgloonhaaGreat
