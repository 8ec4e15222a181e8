/-
  What the readers' functions give.
  No condition.
-/
import Derived.Test.YtfpkfnfgloonhaaGreatRead2
namespace Go.Proofs.YtfpkfnfgloonhaaGreat
open Go.Ab
set_option linter.unusedSimpArgs false
set_option maxRecDepth 20000
set_option maxHeartbeats 4000000
set_option linter.unusedVariables false

def qF : Nat → Int
  | 6 => 1
  | 5 => 128
  | 4 => 16384
  | 3 => 2097152
  | 2 => 268435456
  | _ => 34359738368
theorem qF_next {f : Nat} (h : 2 ≤ f) (h2 : f ≤ 6) : qF (f - 1) = qF f * 128 := by
  match f, h, h2 with
  | 2, _, _ => rfl
  | 3, _, _ => rfl
  | 4, _, _ => rfl
  | 5, _, _ => rfl
  | 6, _, _ => rfl
theorem qF_bnd (f : Nat) : 1 ≤ qF f ∧ qF f ≤ 34359738368 := by
  unfold qF
  split <;> omega
theorem rq_bnd {x : UInt8} {f : Nat} : 0 ≤ ((x.toNat % 128 : Nat) : Int) * qF f ∧ ((x.toNat % 128 : Nat) : Int) * qF f ≤ 4398046511104 := by
  have h := qF_bnd f
  have h1 : 0 ≤ ((x.toNat % 128 : Nat) : Int) * qF f := Int.mul_nonneg (by omega) (by omega)
  have h2 : ((x.toNat % 128 : Nat) : Int) * qF f ≤ 128 * qF f := Int.mul_le_mul_of_nonneg_right (by omega) (by omega)
  omega
theorem num_w {x : UInt8} {n : Int} {f : Nat} (h0 : 0 ≤ n) (h1 : n ≤ 1000000000) : IntKind.i64.wrap (n + IntKind.i64.wrap (IntKind.i64.wrap ((([x].getD (Int.toNat 0) 0).toNat : Int).tmod 128) * qF f)) = n + ((x.toNat % 128 : Nat) : Int) * qF f := by
  have hb := rq_bnd (x := x) (f := f)
  have e1 : ((([x].getD (Int.toNat 0) 0).toNat : Int).tmod 128) = ((x.toNat % 128 : Nat) : Int) := by
    rw [Int.tmod_eq_emod_of_nonneg (by omega)]
    show ((x.toNat : Int)) % 128 = _
    omega
  rw [e1, i64_wrap (e := ((x.toNat % 128 : Nat) : Int)) (by omega) (by omega), i64_wrap (e := ((x.toNat % 128 : Nat) : Int) * qF f) (by omega) (by omega), i64_wrap (by omega) (by omega)]
section
variable {b : List UInt8} {s f : Nat} {n q : Int} {a : Nat} {x : UInt8}
theorem numL_none' (hf : 1 ≤ f) (h : b[a]? = none) : numL b s f n q a = (0, a, true) := by
  obtain ⟨f, rfl⟩ : ∃ g, f = g + 1 := ⟨f - 1, by omega⟩
  exact numL_none h
theorem numL_big' (hf : 1 ≤ f) (h : b[a]? = some x) (h2 : n + ((x.toNat % 128 : Nat) : Int) * q > 1000000000 ∨ a + 1 - s > 5) : numL b s f n q a = (0, a + 1, true) := by
  obtain ⟨f, rfl⟩ : ∃ g, f = g + 1 := ⟨f - 1, by omega⟩
  exact numL_big h h2
theorem numL_fin' (hf : 1 ≤ f) (h : b[a]? = some x) (h2 : ¬ (n + ((x.toNat % 128 : Nat) : Int) * q > 1000000000 ∨ a + 1 - s > 5)) (h3 : x.toNat < 128) : numL b s f n q a = finI b s (n + ((x.toNat % 128 : Nat) : Int) * q) (a + 1) := by
  obtain ⟨f, rfl⟩ : ∃ g, f = g + 1 := ⟨f - 1, by omega⟩
  exact numL_fin h h2 h3
theorem numL_go' (hf : 1 ≤ f) (h : b[a]? = some x) (h2 : ¬ (n + ((x.toNat % 128 : Nat) : Int) * q > 1000000000 ∨ a + 1 - s > 5)) (h3 : ¬ x.toNat < 128) : numL b s f n q a = numL b s (f - 1) (n + ((x.toNat % 128 : Nat) : Int) * q) (q * 128) (a + 1) := by
  obtain ⟨f, rfl⟩ : ∃ g, f = g + 1 := ⟨f - 1, by omega⟩
  exact numL_go h h2 h3
end
theorem c_impl_num (b : List UInt8) (a0 : Nat) (f : Bool) (ha : a0 ≤ b.length) (hb : b.length ≤ 1073741824) : BC Tryz.prog 184 209 [.str b, .int .i64 (a0 : Int), .bool f] [] (.int .i64 (numFI b a0 f).1) [] [.str b, .int .i64 ((numFI b a0 f).2.1 : Int), .bool (numFI b a0 f).2.2] := by
  cases f with
  | true =>
    refine bc_of Tryz.func184 rfl (by kernel_rfl) 3 59 [.tmp 2] rfl rfl rfl (by decide) rfl ?_
    repeat' (conv => whnf); first
      | refine nameB_true ?_
      | refine nameB_false ?_
      | refine nameB_yes (by assumption) ?_
      | refine nameB_no (by assumption) ?_
      | refine nameB_dyes (by assumption) ?_
      | refine nameB_dno (by assumption) ?_
      | (refine nameB_dec (fun h => ?_) (fun h => ?_) <;> try simp only [lensB, midL_len, mkL_length, Int.toNat_natCast, fact_byte] at h)
      | (refine nameB_cases (fun h => ?_) (fun h => ?_) <;> try simp only [bne_iff_ne, ne_eq, bne_eq_false_iff_eq, beq_iff_eq, beq_eq_false_iff_ne, Bool.not_eq_true', Bool.not_eq_false', Bool.or_eq_true, Bool.or_eq_false_iff, lensB, midL_len, mkL_length, Int.toNat_natCast, fact_byte] at h)
      | refine splitB_true ?_
      | refine splitB_false ?_
      | (refine splitB_intro (fun h => ?_) (fun h => ?_) <;> subst h)
      | refine draw_text (by kernel_rfl) (by kernel_rfl) (by kernel_rfl) ?_
      | refine both_intro ?_ ?_
      | refine eitherB_l ?_
      | exact True.intro
      | (show Go.Ab.Loop _ _ _; (refine Loop_at [0, 3] [] (Nat) (fun u => u ≤ 5) (fun u => [(4, .int .i64 0), (5, .int .i64 1)]) (fun u => [(0, ⟨true, 209, 3, [[.str b, .int .i64 (a0 : Int), .bool true]]⟩)]) (fun u => 0) 0 ⟨by first | (simp_all <;> fail) | rfl | fail, by first | (simp_all <;> fail) | rfl | fail, trivial⟩ ⟨by first | rfl | rfl | fail | fail, trivial⟩ (by (try dsimp only); first | (exact Nat.zero_le _) | fail) ?_; (conv => whnf); refine side_and (side_of (by first | exact fun u => rfl | exact fun u => by simp [headOk, closedE, closedO, closedL, AV.closed, hcap.closed, hasId, AObj.box, BK.ofB])) ?_; rintro u hT; try dsimp only at hT))
      | (show Go.Ab.Again _ _ _ _ _ _ _ _ _ _ _; refine Again_of 0 ⟨by first | (simp_all <;> fail) | rfl | fail, by first | (simp_all <;> fail) | rfl | fail, trivial⟩ ⟨by first | rfl | rfl | fail | fail, trivial⟩ (by first | (and_intros <;> first | rfl | trivial) | fail) (by first | (and_intros <;> first | rfl | trivial) | fail) rfl rfl rfl (by (try dsimp only); first | (exact Nat.zero_le _) | fail) (show _ < _ by (try dsimp only); omega))
      | (show Go.Ab.CallA _ _ _ _ _ _ _; refine CallB (c_impl_take_bad b a0 1 ha hb (by omega) (by omega)) rfl rfl rfl rfl rfl rfl ?_)
      | refine ix_map_at hx ?_
      | refine ix_map_at hy ?_
      | refine sl_pre (by omega) (fun _ => rfl) ?_
      | refine sl_suf (by omega) (fun _ => rfl) ?_
      | (refine ix_map2 hx (by omega) (by (try simp only [List.length_take]); omega) (fun y hy => ?_); try simp only [Int.toNat_natCast] at hy)
      | (refine ix_map (by omega) (by (try simp only [List.length_take]); omega) (fun x hx => ?_); try simp only [Int.toNat_natCast] at hx)
      | refine side_and (side_of (by first | (and_intros <;> first | exact Nat.le_of_ble_eq_true rfl | rfl | omega | (simp only [lensB, lensC, List.length_replicate, midL_len, mkL_length]; omega) | exact bytes_ok (Nat.le_of_ble_eq_true rfl) (by omega) (by simp only [lensB, lensC, List.length_replicate, midL_len, mkL_length]; omega) | exact bytes_okN (Nat.le_of_ble_eq_true rfl) (by simp only [lensB, lensC, List.length_replicate, midL_len, mkL_length]; omega)) | fail)) ?_
      | refine nilB_intro (fun h => ?_) ?_
      | refine side_and (side_of (show Go.Ab.structOk _ _ = true by kernel_rfl)) ?_
      | refine side_and (side_of (map_len (fun _ => rfl))) ?_
      | refine side_and (side_of (map_one (fun _ => rfl) _)) ?_
      | refine side_and ?_ ?_
      | refine LoadK_of rfl rfl ?_
      | refine LoadD_cel rfl rfl rfl rfl ?_
      | refine LoadD_of rfl ?_
      | refine StoreD_of rfl rfl rfl ?_
      | refine AppD_of rfl (by and_intros <;> first | rfl | decide) (by simp only [lensC]; first | (refine ⟨by omega, ?_⟩; refine Nat.le_trans (Nat.mul_le_mul_left _ (show _ ≤ 512 by decide)) ?_; omega) | fail) ?_
      | refine AppN_of rfl rfl (by and_intros <;> rfl) (by simp only [lensC]; first | (refine ⟨by omega, ?_⟩; refine Nat.le_trans (Nat.mul_le_mul_left _ (show _ ≤ 512 by decide)) ?_; omega) | fail) ?_
      | (show False; omega)
    all_goals
      conv => whnf
      first
      | exact OutB_plain rfl rfl rfl rfl rfl rfl rfl
  | false =>
    refine bc_of Tryz.func184 rfl (by kernel_rfl) 3 59 [.tmp 2] rfl rfl rfl (by decide) rfl ?_
    repeat' (conv => whnf); first
      | refine nameB_true ?_
      | refine nameB_false ?_
      | refine nameB_yes (by assumption) ?_
      | refine nameB_no (by assumption) ?_
      | refine nameB_dyes (by assumption) ?_
      | refine nameB_dno (by assumption) ?_
      | (refine nameB_dec (fun h => ?_) (fun h => ?_) <;> try simp only [lensB, midL_len, mkL_length, Int.toNat_natCast, fact_byte] at h)
      | (refine nameB_cases (fun h => ?_) (fun h => ?_) <;> try simp only [bne_iff_ne, ne_eq, bne_eq_false_iff_eq, beq_iff_eq, beq_eq_false_iff_ne, Bool.not_eq_true', Bool.not_eq_false', Bool.or_eq_true, Bool.or_eq_false_iff, lensB, midL_len, mkL_length, Int.toNat_natCast, fact_byte] at h)
      | refine splitB_true ?_
      | refine splitB_false ?_
      | (refine splitB_intro (fun h => ?_) (fun h => ?_) <;> subst h)
      | refine draw_text (by kernel_rfl) (by kernel_rfl) (by kernel_rfl) ?_
      | refine both_intro ?_ ?_
      | refine eitherB_l ?_
      | exact True.intro
      | (show Go.Ab.Loop _ _ _; (refine Loop_at [0, 3] [] (Nat × Int × Int × Nat) (fun j => match j with | (f, n, q, a) => numL b a0 f n q a = numL b a0 6 0 1 a0 ∧ a + f = a0 + 6 ∧ a ≤ b.length ∧ 0 ≤ n ∧ n ≤ 1000000000 ∧ q = qF f ∧ a0 ≤ a ∧ 1 ≤ f) (fun j => match j with | (f, n, q, a) => [(4, .int .i64 n), (5, .int .i64 (qF f))]) (fun j => match j with | (f, n, q, a) => [(0, ⟨true, 209, 3, [[.str b, .int .i64 (a : Int), .bool false]]⟩)]) (fun j => match j with | (f, n, q, a) => f) (6, 0, 1, a0) ⟨by first | first | rfl | exact congrArg (AV.int .i64) hw | exact congrArg (AV.int .i64) ((i64_wrap (by omega) (by omega)).trans (qF_next (by omega) (by omega)).symm) | rfl | fail, by first | first | rfl | exact congrArg (AV.int .i64) hw | exact congrArg (AV.int .i64) ((i64_wrap (by omega) (by omega)).trans (qF_next (by omega) (by omega)).symm) | rfl | fail, trivial⟩ ⟨by first | rfl | rfl | fail | fail, trivial⟩ (by (try dsimp only); first | (exact ⟨rfl, rfl, ha, by omega, by omega, rfl, Nat.le_refl _, by omega⟩) | fail) ?_; (conv => whnf); refine side_and (side_of (by first | exact fun ⟨f, n, q, a⟩ => rfl | exact fun ⟨f, n, q, a⟩ => by simp [headOk, closedE, closedO, closedL, AV.closed, hcap.closed, hasId, AObj.box, BK.ofB])) ?_; rintro ⟨f, n, q, a⟩ hT; try dsimp only at hT))
      | (show Go.Ab.Again _ _ _ _ _ _ _ _ _ _ _; refine Again_of (f - 1, n + ((x.toNat % 128 : Nat) : Int) * qF f, qF (f - 1), a + 1) ⟨by first | first | rfl | exact congrArg (AV.int .i64) hw | exact congrArg (AV.int .i64) ((i64_wrap (by omega) (by omega)).trans (qF_next (by omega) (by omega)).symm) | rfl | fail, by first | first | rfl | exact congrArg (AV.int .i64) hw | exact congrArg (AV.int .i64) ((i64_wrap (by omega) (by omega)).trans (qF_next (by omega) (by omega)).symm) | rfl | fail, trivial⟩ ⟨by first | rfl | rfl | fail | fail, trivial⟩ (by first | (and_intros <;> first | rfl | trivial) | fail) (by first | (and_intros <;> first | rfl | trivial) | fail) rfl rfl rfl (by (try dsimp only); first | ((have hq := qF_next (f := f) (by omega) (by omega); exact ⟨by rw [hq]; exact (numL_go' hT.2.2.2.2.2.2.2 hx (by omega) (by omega)).symm.trans (by rw [← hT.2.2.2.2.2.1]; exact hT.1), by omega, by omega, by omega, by omega, rfl, by omega, by omega⟩)) | fail) (show _ < _ by (try dsimp only); omega))
      | (show Go.Ab.CallA _ _ _ _ _ _ _; first
          | refine CallB (c_impl_fail ..) rfl rfl rfl rfl rfl rfl ?_
          | refine Call0 (c_impl_numBytes9 (n + ((x.toNat % 128 : Nat) : Int) * qF f) (by omega) (by omega)) rfl rfl ?_
          | refine Call0 (c_impl_numBytes9 (n + ((x.toNat % 128 : Nat) : Int) * qF f) (by omega) (by omega)) (congrArg (fun z : Int => [AV.int .i64 z]) hw) rfl ?_
          | (rcases hx : b[a]? with _ | x <;> first | refine CallB (c_impl_take1_no b a hT.2.2.1 hb hx) rfl rfl rfl rfl rfl rfl ?_ | (have hw := num_w (x := x) (n := n) (f := f) hT.2.2.2.1 hT.2.2.2.2.1; have hgx : ([x].getD (Int.toNat 0) 0).toNat = x.toNat := rfl; have hrq := rq_bnd (x := x) (f := f); have hqb := qF_bnd f; have hlt := (List.getElem?_eq_some_iff.1 hx).1; have hws := i64_wrap (e := ((a + 1 : Nat) : Int) - a0) (by omega) (by omega); refine CallB (c_impl_take1 b a x hb hx) rfl rfl rfl rfl rfl rfl ?_)))
      | (show Go.Ab.CallD _ _ _ _ _ _ _; first
          | refine CallD0 (c_impl_numBytes9 (n + ((x.toNat % 128 : Nat) : Int) * qF f) (by omega) (by omega)) (congrArg (fun z : Int => [AV.int .i64 z]) hw) rfl rfl ?_
          | refine CallD0 (c_impl_numBytes9 (n + ((x.toNat % 128 : Nat) : Int) * qF f) (by omega) (by omega)) rfl rfl rfl ?_
          | refine CallD0 (c_impl_numBytes9 (n + ((x.toNat % 128 : Nat) : Int) * qF f) (by omega) (by omega)) (congrArg (fun z : Int => [AV.int .i64 z]) hw) rfl ?_)
      | refine ix_map_at hx ?_
      | refine ix_map_at hy ?_
      | refine sl_pre (by omega) (fun _ => rfl) ?_
      | refine sl_suf (by omega) (fun _ => rfl) ?_
      | (refine ix_map2 hx (by omega) (by (try simp only [List.length_take]); omega) (fun y hy => ?_); try simp only [Int.toNat_natCast] at hy)
      | (refine ix_map (by omega) (by (try simp only [List.length_take]); omega) (fun x hx => ?_); try simp only [Int.toNat_natCast] at hx)
      | refine side_and (side_of (by first | (and_intros <;> first | exact Nat.le_of_ble_eq_true rfl | rfl | omega | (simp only [lensB, lensC, List.length_replicate, midL_len, mkL_length]; omega) | exact bytes_ok (Nat.le_of_ble_eq_true rfl) (by omega) (by simp only [lensB, lensC, List.length_replicate, midL_len, mkL_length]; omega) | exact bytes_okN (Nat.le_of_ble_eq_true rfl) (by simp only [lensB, lensC, List.length_replicate, midL_len, mkL_length]; omega)) | fail)) ?_
      | refine nilB_intro (fun h => ?_) ?_
      | refine side_and (side_of (show Go.Ab.structOk _ _ = true by kernel_rfl)) ?_
      | refine side_and (side_of (map_len (fun _ => rfl))) ?_
      | refine side_and (side_of (map_one (fun _ => rfl) _)) ?_
      | refine side_and ?_ ?_
      | refine LoadK_of rfl rfl ?_
      | refine LoadD_cel rfl rfl rfl rfl ?_
      | refine LoadD_of rfl ?_
      | refine StoreD_of rfl rfl rfl ?_
      | refine AppD_of rfl (by and_intros <;> first | rfl | decide) (by simp only [lensC]; first | (refine ⟨by omega, ?_⟩; refine Nat.le_trans (Nat.mul_le_mul_left _ (show _ ≤ 512 by decide)) ?_; omega) | fail) ?_
      | refine AppN_of rfl rfl (by and_intros <;> rfl) (by simp only [lensC]; first | (refine ⟨by omega, ?_⟩; refine Nat.le_trans (Nat.mul_le_mul_left _ (show _ ≤ 512 by decide)) ?_; omega) | fail) ?_
      | (show False; omega)
    all_goals
      conv => whnf
      first
      | (rw [show numFI b a0 false = (0, a, true) from hT.1.symm.trans (numL_none' hT.2.2.2.2.2.2.2 hx)]; exact OutB_plain rfl rfl rfl rfl rfl rfl rfl)
      | (rw [show numFI b a0 false = (0, a + 1, true) from hT.1.symm.trans (by rw [hT.2.2.2.2.2.1]; exact numL_big' hT.2.2.2.2.2.2.2 hx (by first | (left; omega) | (right; omega)))]; exact OutB_plain rfl rfl rfl rfl rfl rfl rfl)
      | (rw [show numFI b a0 false = (0, a + 1, true) from hT.1.symm.trans (by rw [hT.2.2.2.2.2.1]; exact (numL_fin' hT.2.2.2.2.2.2.2 hx (by omega) (by omega)).trans (if_neg (by assumption)))]; exact OutB_plain rfl rfl rfl rfl rfl rfl rfl)
      | (rw [show numFI b a0 false = (n + ((x.toNat % 128 : Nat) : Int) * qF f, a + 1, false) from hT.1.symm.trans (by rw [hT.2.2.2.2.2.1]; exact (numL_fin' hT.2.2.2.2.2.2.2 hx (by omega) (by omega)).trans (if_pos (by assumption)))]; exact OutB_plain rfl rfl rfl rfl rfl (congrArg (AV.int .i64) hw) rfl)
theorem textFI_big {b : List UInt8} {a : Nat} {f : Bool} (h : (numFI b a f).1 > 60) : textFI b a f = ([], (numFI b a f).2.1, true) := by unfold textFI; rw [if_pos h]
theorem textFI_ok' {b : List UInt8} {a : Nat} {f : Bool} (h : ¬ (numFI b a f).1 > 60) : textFI b a f = takeF b (numFI b a f).2.1 (numFI b a f).2.2 (numFI b a f).1 := by unfold textFI; rw [if_neg h]
theorem c_impl_text (b : List UInt8) (a : Nat) (f : Bool) (ha : a ≤ b.length) (hb : b.length ≤ 1073741824) : BC Tryz.prog 206 209 [.str b, .int .i64 (a : Int), .bool f] [] (.str (textFI b a f).1) [] [.str b, .int .i64 ((textFI b a f).2.1 : Int), .bool (textFI b a f).2.2] := by
  have ok := numFI_ok (b := b) (f := f) ha
  have nn := ok.nn
  have le := ok.le
  refine bc_of Tryz.func206 rfl (by kernel_rfl) 3 13 [.tmp 2] rfl rfl rfl (by decide) rfl ?_
  repeat' (conv => whnf); first
    | refine nameB_true ?_
    | refine nameB_false ?_
    | refine nameB_yes (by assumption) ?_
    | refine nameB_no (by assumption) ?_
    | refine nameB_dyes (by assumption) ?_
    | refine nameB_dno (by assumption) ?_
    | (refine nameB_dec (fun h => ?_) (fun h => ?_) <;> try simp only [lensB, midL_len, mkL_length, Int.toNat_natCast, fact_byte] at h)
    | (refine nameB_cases (fun h => ?_) (fun h => ?_) <;> try simp only [bne_iff_ne, ne_eq, bne_eq_false_iff_eq, beq_iff_eq, beq_eq_false_iff_ne, Bool.not_eq_true', Bool.not_eq_false', Bool.or_eq_true, Bool.or_eq_false_iff, lensB, midL_len, mkL_length, Int.toNat_natCast, fact_byte] at h)
    | refine splitB_true ?_
    | refine splitB_false ?_
    | (refine splitB_intro (fun h => ?_) (fun h => ?_) <;> subst h)
    | refine draw_text (by kernel_rfl) (by kernel_rfl) (by kernel_rfl) ?_
    | refine both_intro ?_ ?_
    | refine eitherB_l ?_
    | exact True.intro
    | (show Go.Ab.CallA _ _ _ _ _ _ _; first
        | refine CallB (c_impl_num b a f ha hb) rfl rfl rfl rfl rfl rfl ?_
        | refine CallB (c_impl_fail ..) rfl rfl rfl rfl rfl rfl ?_
        | refine CallB (c_impl_take b (numFI b a f).2.1 (numFI b a f).2.2 (numFI b a f).1 ok.hi hb nn le) rfl rfl rfl rfl rfl rfl ?_)
    | refine ix_map_at hx ?_
    | refine ix_map_at hy ?_
    | refine sl_pre (by omega) (fun _ => rfl) ?_
    | refine sl_suf (by omega) (fun _ => rfl) ?_
    | (refine ix_map2 hx (by omega) (by (try simp only [List.length_take]); omega) (fun y hy => ?_); try simp only [Int.toNat_natCast] at hy)
    | (refine ix_map (by omega) (by (try simp only [List.length_take]); omega) (fun x hx => ?_); try simp only [Int.toNat_natCast] at hx)
    | refine side_and (side_of (by first | (and_intros <;> first | exact Nat.le_of_ble_eq_true rfl | rfl | omega | (simp only [lensB, lensC, List.length_replicate, midL_len, mkL_length]; omega) | exact bytes_ok (Nat.le_of_ble_eq_true rfl) (by omega) (by simp only [lensB, lensC, List.length_replicate, midL_len, mkL_length]; omega) | exact bytes_okN (Nat.le_of_ble_eq_true rfl) (by simp only [lensB, lensC, List.length_replicate, midL_len, mkL_length]; omega)) | fail)) ?_
    | refine nilB_intro (fun h => ?_) ?_
    | refine side_and (side_of (show Go.Ab.structOk _ _ = true by kernel_rfl)) ?_
    | refine side_and (side_of (map_len (fun _ => rfl))) ?_
    | refine side_and (side_of (map_one (fun _ => rfl) _)) ?_
    | refine side_and ?_ ?_
    | refine LoadK_of rfl rfl ?_
    | refine LoadD_cel rfl rfl rfl rfl ?_
    | refine LoadD_of rfl ?_
    | refine StoreD_of rfl rfl rfl ?_
    | refine AppD_of rfl (by and_intros <;> first | rfl | decide) (by simp only [lensC]; first | (refine ⟨by omega, ?_⟩; refine Nat.le_trans (Nat.mul_le_mul_left _ (show _ ≤ 512 by decide)) ?_; omega) | fail) ?_
    | refine AppN_of rfl rfl (by and_intros <;> rfl) (by simp only [lensC]; first | (refine ⟨by omega, ?_⟩; refine Nat.le_trans (Nat.mul_le_mul_left _ (show _ ≤ 512 by decide)) ?_; omega) | fail) ?_
    | (show False; omega)
  all_goals
    conv => whnf
    first
    | (rw [textFI_big (b := b) (a := a) (f := f) (by assumption)]; exact OutB_plain rfl rfl rfl rfl rfl rfl rfl)
    | (rw [textFI_ok' (b := b) (a := a) (f := f) (by assumption)]; exact OutB_plain rfl rfl rfl rfl rfl rfl rfl)
theorem app_str {out : List (List UInt8)} {t : List UInt8} : out.map strC ++ [[AV.str t]] = (out ++ [t]).map strC := by
  rw [List.map_append]; rfl
theorem or_dec {p : Bool} {q : Prop} [Decidable q] (h : q) : true = (p || decide q) := by rw [decide_eq_true h, Bool.or_true]
theorem or_dec_no {p : Bool} {q : Prop} [Decidable q] (h : ¬ q) : p = (p || decide q) := by rw [decide_eq_false h, Bool.or_false]
theorem c_impl_texts (b : List UInt8) (a : Nat) (f : Bool) (ha : a ≤ b.length) (hb : b.length ≤ 1000000) : BC Tryz.prog 205 209 [.str b, .int .i64 (a : Int), .bool f] [] (.own 0) [⟨false, 9, 1, (textsFI b a f).1.map strC⟩] [.str b, .int .i64 ((textsFI b a f).2.1 : Int), .bool (textsFI b a f).2.2] := by
  have ok := numFI_ok (b := b) (f := f) ha
  have nn := ok.nn
  have le := ok.le
  refine bc_of Tryz.func205 rfl (by kernel_rfl) 3 31 [.tmp 2] rfl rfl rfl (by decide) rfl ?_
  repeat' (conv => whnf); first
    | refine side_and (side_of (one_lenC rfl rfl)) ?_
    | refine side_and (side_of (by first | (and_intros <;> first | exact Nat.le_of_ble_eq_true rfl | rfl | (intro e; exact absurd (AV.own.inj e) (by decide)) | (intro e; exact AV.noConfusion e)) | fail)) ?_
    | refine side_and (side_of (app_boundC (L := out.map strC) rfl (by (try simp only [List.length_map, List.length_append, List.length_take, List.length_set, List.length_drop]); omega) (Nat.le_of_ble_eq_true rfl))) ?_
    | refine nameB_true ?_
    | refine nameB_false ?_
    | refine nameB_yes (by assumption) ?_
    | refine nameB_no (by assumption) ?_
    | refine nameB_dyes (by assumption) ?_
    | refine nameB_dno (by assumption) ?_
    | (refine nameB_dec (fun h => ?_) (fun h => ?_) <;> try simp only [lensB, midL_len, mkL_length, Int.toNat_natCast, fact_byte] at h)
    | (refine nameB_cases (fun h => ?_) (fun h => ?_) <;> try simp only [bne_iff_ne, ne_eq, bne_eq_false_iff_eq, beq_iff_eq, beq_eq_false_iff_ne, Bool.not_eq_true', Bool.not_eq_false', Bool.or_eq_true, Bool.or_eq_false_iff, lensB, midL_len, mkL_length, Int.toNat_natCast, fact_byte] at h)
    | refine splitB_true ?_
    | refine splitB_false ?_
    | (refine splitB_intro (fun h => ?_) (fun h => ?_) <;> subst h)
    | refine draw_text (by kernel_rfl) (by kernel_rfl) (by kernel_rfl) ?_
    | refine both_intro ?_ ?_
    | refine eitherB_l ?_
    | exact True.intro
    | (show Go.Ab.Loop _ _ _; (refine Loop_nil 4 16384 9 1 rfl rfl (by decide) ?_; refine Loop_at [0, 3] [] (Nat × List (List UInt8) × Nat × Bool) (fun j => match j with | (k, out, c, g) => manyG (fun a => textFI b a false) k out c g = textsFI b a f ∧ (k : Int) ≤ (numFI b a f).1 ∧ c ≤ b.length ∧ out.length ≤ c + 1 ∧ (g = false → out.length ≤ c)) (fun j => match j with | (k, out, c, g) => [(4, .own 16384), (5, .int .i64 ((numFI b a f).1 - (k : Int)))]) (fun j => match j with | (k, out, c, g) => [(0, ⟨true, 209, 3, [[.str b, .int .i64 (c : Int), .bool g]]⟩), (16384, ⟨false, 9, 1, out.map strC⟩)]) (fun j => match j with | (k, out, c, g) => k) ((numFI b a f).1.toNat, [], (numFI b a f).2.1, (numFI b a f).2.2 || decide ((numFI b a f).1 > 40)) ⟨by first | rfl | first | rfl | exact congrArg (AV.int .i64) (by omega) | exact congrArg (AV.int .i64) ((i64_wrap (by omega) (by omega)).trans (by omega)) | fail, by first | first | rfl | exact congrArg (AV.int .i64) (by omega) | exact congrArg (AV.int .i64) ((i64_wrap (by omega) (by omega)).trans (by omega)) | rfl | fail, trivial⟩ ⟨by first | rfl | first | rfl | exact congrArg (fun e => some (AObj.mk _ _ _ e)) app_str | exact congrArg (fun z => some (AObj.mk _ _ _ [[AV.str b, AV.int .i64 _, AV.bool z]])) (or_dec (by assumption)) | exact congrArg (fun z => some (AObj.mk _ _ _ [[AV.str b, AV.int .i64 _, AV.bool z]])) (or_dec_no (by assumption)) | fail | fail, by first | rfl | first | rfl | exact congrArg (fun e => some (AObj.mk _ _ _ e)) app_str | exact congrArg (fun z => some (AObj.mk _ _ _ [[AV.str b, AV.int .i64 _, AV.bool z]])) (or_dec (by assumption)) | exact congrArg (fun z => some (AObj.mk _ _ _ [[AV.str b, AV.int .i64 _, AV.bool z]])) (or_dec_no (by assumption)) | fail | fail, trivial⟩ (by (try dsimp only); first | (exact ⟨rfl, by omega, ok.hi, Nat.zero_le _, fun _ => Nat.zero_le _⟩) | fail) ?_; (conv => whnf); refine side_and (side_of (by first | exact fun ⟨k, out, c, g⟩ => rfl | exact fun ⟨k, out, c, g⟩ => by simp [headOk, closedE, closedO, closedL, AV.closed, hcap.closed, hasId, AObj.box, BK.ofB])) ?_; rintro ⟨k, out, c, g⟩ hT; try dsimp only at hT))
    | (show Go.Ab.Again _ _ _ _ _ _ _ _ _ _ _; refine Again_of (k - 1, out ++ [(textFI b c g).1], (textFI b c g).2.1, (textFI b c g).2.2) ⟨by first | rfl | first | rfl | exact congrArg (AV.int .i64) (by omega) | exact congrArg (AV.int .i64) ((i64_wrap (by omega) (by omega)).trans (by omega)) | fail, by first | first | rfl | exact congrArg (AV.int .i64) (by omega) | exact congrArg (AV.int .i64) ((i64_wrap (by omega) (by omega)).trans (by omega)) | rfl | fail, trivial⟩ ⟨by first | rfl | first | rfl | exact congrArg (fun e => some (AObj.mk _ _ _ e)) app_str | exact congrArg (fun z => some (AObj.mk _ _ _ [[AV.str b, AV.int .i64 _, AV.bool z]])) (or_dec (by assumption)) | exact congrArg (fun z => some (AObj.mk _ _ _ [[AV.str b, AV.int .i64 _, AV.bool z]])) (or_dec_no (by assumption)) | fail | fail, by first | rfl | first | rfl | exact congrArg (fun e => some (AObj.mk _ _ _ e)) app_str | exact congrArg (fun z => some (AObj.mk _ _ _ [[AV.str b, AV.int .i64 _, AV.bool z]])) (or_dec (by assumption)) | exact congrArg (fun z => some (AObj.mk _ _ _ [[AV.str b, AV.int .i64 _, AV.bool z]])) (or_dec_no (by assumption)) | fail | fail, trivial⟩ (by first | (and_intros <;> first | rfl | trivial) | fail) (by first | (and_intros <;> first | rfl | trivial) | fail) rfl rfl rfl (by (try dsimp only); first | ((have hg : g = false := (by assumption); subst hg; have ho := textFI_ok (b := b) (f := false) hT.2.2.1; have hl := hT.2.2.2.2 rfl; have lo := ho.lo; exact ⟨manyG_go hT.1 (by omega), by omega, ho.hi, by rw [List.length_append]; show out.length + 1 ≤ _; omega, fun e => by have := textFI_go hT.2.2.1 e; rw [List.length_append]; show out.length + 1 ≤ _; omega⟩)) | fail) (show _ < _ by (try dsimp only); omega))
    | (show Go.Ab.CallA _ _ _ _ _ _ _; first
        | refine CallB (c_impl_num b a f ha (by omega)) rfl rfl rfl rfl rfl rfl ?_
        | refine CallB (c_impl_fail ..) rfl rfl rfl rfl rfl rfl ?_
        | refine CallB (c_impl_text b c g hT.2.2.1 (by omega)) rfl rfl rfl rfl rfl rfl ?_)
    | refine ix_map_at hx ?_
    | refine ix_map_at hy ?_
    | refine sl_pre (by omega) (fun _ => rfl) ?_
    | refine sl_suf (by omega) (fun _ => rfl) ?_
    | (refine ix_map2 hx (by omega) (by (try simp only [List.length_take]); omega) (fun y hy => ?_); try simp only [Int.toNat_natCast] at hy)
    | (refine ix_map (by omega) (by (try simp only [List.length_take]); omega) (fun x hx => ?_); try simp only [Int.toNat_natCast] at hx)
    | refine side_and (side_of (by first | (and_intros <;> first | exact Nat.le_of_ble_eq_true rfl | rfl | omega | (simp only [lensB, lensC, List.length_replicate, midL_len, mkL_length]; omega) | exact bytes_ok (Nat.le_of_ble_eq_true rfl) (by omega) (by simp only [lensB, lensC, List.length_replicate, midL_len, mkL_length]; omega) | exact bytes_okN (Nat.le_of_ble_eq_true rfl) (by simp only [lensB, lensC, List.length_replicate, midL_len, mkL_length]; omega)) | fail)) ?_
    | refine nilB_intro (fun h => ?_) ?_
    | refine side_and (side_of (show Go.Ab.structOk _ _ = true by kernel_rfl)) ?_
    | refine side_and (side_of (map_len (fun _ => rfl))) ?_
    | refine side_and (side_of (map_one (fun _ => rfl) _)) ?_
    | refine side_and ?_ ?_
    | refine LoadK_of rfl rfl ?_
    | refine LoadD_cel rfl rfl rfl rfl ?_
    | refine LoadD_of rfl ?_
    | refine StoreD_of rfl rfl rfl ?_
    | refine AppD_of rfl (by and_intros <;> first | rfl | decide) (by simp only [lensC]; first | (refine ⟨by omega, ?_⟩; refine Nat.le_trans (Nat.mul_le_mul_left _ (show _ ≤ 512 by decide)) ?_; omega) | fail) ?_
    | refine AppN_of rfl rfl (by and_intros <;> rfl) (by simp only [lensC]; first | (refine ⟨by omega, ?_⟩; refine Nat.le_trans (Nat.mul_le_mul_left _ (show _ ≤ 512 by decide)) ?_; omega) | fail) ?_
    | (show False; omega)
  all_goals
    conv => whnf
    first
    | (rw [← manyG_end hT.1 (by first | (left; omega) | (right; assumption))]; exact OutB_ids rfl rfl rfl ⟨⟨_, _, _, rfl, rfl⟩, trivial⟩ rfl rfl rfl rfl (flat_one (flat_map (fun _ => rfl) _)) rfl)
end Go.Proofs.YtfpkfnfgloonhaaGreat
