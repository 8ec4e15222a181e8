/-
  What the functions that open a seal and read a record give.
  No condition.
-/
import Derived.Test.YtfpkfnfgloonhaaGreatRead4
import Derived.Test.YtfpkfnfgloonhaaGreatBytes2
namespace Go.Proofs.YtfpkfnfgloonhaaGreat
open Go.Ab
set_option linter.unusedSimpArgs false
set_option maxRecDepth 20000
set_option maxHeartbeats 4000000
set_option linter.unusedVariables false

theorem c_spec_texts (b : List UInt8) (a : Nat) (f : Bool) (ha : a ≤ b.length) (hb : b.length ≤ 1000000) : BC Tryz.prog 177 196 [.str b, .int .i64 (a : Int), .bool f] [] (.own 0) [⟨false, 9, 1, (textsFS b a f).1.map strC⟩] [.str b, .int .i64 ((textsFS b a f).2.1 : Int), .bool (textsFS b a f).2.2] := by
  have ok := numFS_ok (b := b) (f := f) ha
  have nn := ok.nn
  have le := ok.le
  refine bc_of Tryz.func177 rfl (by kernel_rfl) 3 29 [.tmp 2] rfl rfl rfl (by decide) rfl ?_
  repeat' (conv => whnf); first
    | refine side_and (side_of (one_lenC rfl rfl)) ?_
    | refine side_and (side_of (by first | (and_intros <;> first | exact Nat.le_of_ble_eq_true rfl | rfl | (intro e; exact absurd (AV.own.inj e) (by decide)) | (intro e; exact AV.noConfusion e)) | fail)) ?_
    | refine side_and (side_of (app_boundC (L := out.map strC) rfl (by (try simp only [List.length_map, List.length_append, List.length_take, List.length_set, List.length_drop]); omega) (Nat.le_of_ble_eq_true rfl))) ?_
    | refine nameB_true ?_
    | refine nameB_false ?_
    | refine nameB_yes (by assumption) ?_
    | refine nameB_no (by assumption) ?_
    | refine nameB_dyes (by assumption) ?_
    | refine nameB_dno (by assumption) ?_
    | (refine nameB_dec (fun h => ?_) (fun h => ?_) <;> try simp only [lensB, midL_len, mkL_length, Int.toNat_natCast, fact_byte] at h)
    | (refine nameB_cases (fun h => ?_) (fun h => ?_) <;> try simp only [bne_iff_ne, ne_eq, bne_eq_false_iff_eq, beq_iff_eq, beq_eq_false_iff_ne, Bool.not_eq_true', Bool.not_eq_false', Bool.or_eq_true, Bool.or_eq_false_iff, lensB, midL_len, mkL_length, Int.toNat_natCast, fact_byte] at h)
    | refine splitB_true ?_
    | refine splitB_false ?_
    | (refine splitB_intro (fun h => ?_) (fun h => ?_) <;> subst h)
    | refine draw_text (by kernel_rfl) (by kernel_rfl) (by kernel_rfl) ?_
    | refine both_intro ?_ ?_
    | refine eitherB_l ?_
    | exact True.intro
    | (show Go.Ab.Loop _ _ _; (refine Loop_nil 4 20480 9 1 rfl rfl (by decide) ?_; refine Loop_at [0] [] (Nat × List (List UInt8) × Nat × Bool) (fun j => match j with | (k, out, c, g) => manyG (fun a => textFS b a false) k out c g = textsFS b a f ∧ k ≤ 1000000000 ∧ c ≤ b.length ∧ out.length ≤ c + 1 ∧ (g = false → out.length ≤ c)) (fun j => match j with | (k, out, c, g) => [(3, .int .i64 (k)), (4, .own 20480)]) (fun j => match j with | (k, out, c, g) => [(0, ⟨true, 196, 3, [[.str b, .int .i64 (c : Int), .bool g]]⟩), (20480, ⟨false, 9, 1, out.map strC⟩)]) (fun j => match j with | (k, out, c, g) => k) ((numFS b a f).1.toNat, [], (numFS b a f).2.1, (numFS b a f).2.2 || decide ((numFS b a f).1 > 40)) ⟨by first | first | rfl | exact congrArg (AV.int .i64) (by omega) | exact congrArg (AV.int .i64) ((i64_wrap (by omega) (by omega)).trans (by omega)) | rfl | fail, by first | rfl | first | rfl | exact congrArg (AV.int .i64) (by omega) | exact congrArg (AV.int .i64) ((i64_wrap (by omega) (by omega)).trans (by omega)) | fail, trivial⟩ ⟨by first | rfl | first | rfl | exact congrArg (fun e => some (AObj.mk _ _ _ e)) app_str | exact congrArg (fun z => some (AObj.mk _ _ _ [[AV.str b, AV.int .i64 _, AV.bool z]])) (or_dec (by assumption)) | exact congrArg (fun z => some (AObj.mk _ _ _ [[AV.str b, AV.int .i64 _, AV.bool z]])) (or_dec_no (by assumption)) | fail | fail, by first | rfl | first | rfl | exact congrArg (fun e => some (AObj.mk _ _ _ e)) app_str | exact congrArg (fun z => some (AObj.mk _ _ _ [[AV.str b, AV.int .i64 _, AV.bool z]])) (or_dec (by assumption)) | exact congrArg (fun z => some (AObj.mk _ _ _ [[AV.str b, AV.int .i64 _, AV.bool z]])) (or_dec_no (by assumption)) | fail | fail, trivial⟩ (by (try dsimp only); first | (exact ⟨rfl, by omega, ok.hi, Nat.zero_le _, fun _ => Nat.zero_le _⟩) | fail) ?_; (conv => whnf); refine side_and (side_of (by first | exact fun ⟨k, out, c, g⟩ => rfl | exact fun ⟨k, out, c, g⟩ => by simp [headOk, closedE, closedO, closedL, AV.closed, hcap.closed, hasId, AObj.box, BK.ofB])) ?_; rintro ⟨k, out, c, g⟩ hT; try dsimp only at hT))
    | (show Go.Ab.Again _ _ _ _ _ _ _ _ _ _ _; refine Again_of (k - 1, out ++ [(textFS b c g).1], (textFS b c g).2.1, (textFS b c g).2.2) ⟨by first | first | rfl | exact congrArg (AV.int .i64) (by omega) | exact congrArg (AV.int .i64) ((i64_wrap (by omega) (by omega)).trans (by omega)) | rfl | fail, by first | rfl | first | rfl | exact congrArg (AV.int .i64) (by omega) | exact congrArg (AV.int .i64) ((i64_wrap (by omega) (by omega)).trans (by omega)) | fail, trivial⟩ ⟨by first | rfl | first | rfl | exact congrArg (fun e => some (AObj.mk _ _ _ e)) app_str | exact congrArg (fun z => some (AObj.mk _ _ _ [[AV.str b, AV.int .i64 _, AV.bool z]])) (or_dec (by assumption)) | exact congrArg (fun z => some (AObj.mk _ _ _ [[AV.str b, AV.int .i64 _, AV.bool z]])) (or_dec_no (by assumption)) | fail | fail, by first | rfl | first | rfl | exact congrArg (fun e => some (AObj.mk _ _ _ e)) app_str | exact congrArg (fun z => some (AObj.mk _ _ _ [[AV.str b, AV.int .i64 _, AV.bool z]])) (or_dec (by assumption)) | exact congrArg (fun z => some (AObj.mk _ _ _ [[AV.str b, AV.int .i64 _, AV.bool z]])) (or_dec_no (by assumption)) | fail | fail, trivial⟩ (by first | (and_intros <;> first | rfl | trivial) | fail) (by first | (and_intros <;> first | rfl | trivial) | fail) rfl rfl rfl (by (try dsimp only); first | ((have hg : g = false := (by assumption); subst hg; have ho := textFS_ok (b := b) (f := false) hT.2.2.1; have hl := hT.2.2.2.2 rfl; have lo := ho.lo; exact ⟨manyG_go hT.1 (by omega), by omega, ho.hi, by rw [List.length_append]; show out.length + 1 ≤ _; omega, fun e => by have := textFS_go hT.2.2.1 e; rw [List.length_append]; show out.length + 1 ≤ _; omega⟩)) | fail) (show _ < _ by (try dsimp only); omega))
    | (show Go.Ab.CallA _ _ _ _ _ _ _; first
        | refine CallB (c_spec_num b a f ha (by omega)) rfl rfl rfl rfl rfl rfl ?_
        | refine CallB (c_spec_text b c g hT.2.2.1 (by omega)) rfl rfl rfl rfl rfl rfl ?_)
    | refine ix_map_at hx ?_
    | refine ix_map_at hy ?_
    | refine sl_pre (by omega) (fun _ => rfl) ?_
    | refine sl_suf (by omega) (fun _ => rfl) ?_
    | (refine ix_map2 hx (by omega) (by (try simp only [List.length_take]); omega) (fun y hy => ?_); try simp only [Int.toNat_natCast] at hy)
    | (refine ix_map (by omega) (by (try simp only [List.length_take]); omega) (fun x hx => ?_); try simp only [Int.toNat_natCast] at hx)
    | refine side_and (side_of (by first | (and_intros <;> first | exact Nat.le_of_ble_eq_true rfl | rfl | omega | (simp only [lensB, lensC, List.length_replicate, midL_len, mkL_length]; omega) | exact bytes_ok (Nat.le_of_ble_eq_true rfl) (by omega) (by simp only [lensB, lensC, List.length_replicate, midL_len, mkL_length]; omega) | exact bytes_okN (Nat.le_of_ble_eq_true rfl) (by simp only [lensB, lensC, List.length_replicate, midL_len, mkL_length]; omega)) | fail)) ?_
    | refine nilB_intro (fun h => ?_) ?_
    | refine side_and (side_of (show Go.Ab.structOk _ _ = true by kernel_rfl)) ?_
    | refine side_and (side_of (map_len (fun _ => rfl))) ?_
    | refine side_and (side_of (map_one (fun _ => rfl) _)) ?_
    | refine side_and ?_ ?_
    | refine LoadK_of rfl rfl ?_
    | refine LoadD_cel rfl rfl rfl rfl ?_
    | refine LoadD_of rfl ?_
    | refine StoreD_of rfl rfl rfl ?_
    | refine AppD_of rfl (by and_intros <;> first | rfl | decide) (by simp only [lensC]; first | (refine ⟨by omega, ?_⟩; refine Nat.le_trans (Nat.mul_le_mul_left _ (show _ ≤ 512 by decide)) ?_; omega) | fail) ?_
    | refine AppN_of rfl rfl (by and_intros <;> rfl) (by simp only [lensC]; first | (refine ⟨by omega, ?_⟩; refine Nat.le_trans (Nat.mul_le_mul_left _ (show _ ≤ 512 by decide)) ?_; omega) | fail) ?_
    | (show False; omega)
  all_goals
    conv => whnf
    first
    | (rw [← manyG_end hT.1 (by first | (left; omega) | (right; assumption))]; exact OutB_ids rfl rfl rfl ⟨⟨_, _, _, rfl, rfl⟩, trivial⟩ rfl rfl rfl rfl (flat_one (flat_map (fun _ => rfl) _)) rfl)
def sealF (b : List UInt8) : List UInt8 × Bool := if 3 ≤ b.length ∧ b.length ≤ 6000 ∧ sealB (b.take (b.length - 3)) = b then (b.take (b.length - 3), true) else ([], false)
theorem sealF_no {b : List UInt8} (h : ¬ (3 ≤ b.length ∧ b.length ≤ 6000 ∧ sealB (b.take (b.length - 3)) = b)) : sealF b = ([], false) := by unfold sealF; rw [if_neg h]
theorem sealF_yes {b : List UInt8} (h : 3 ≤ b.length) (h2 : b.length ≤ 6000) (h3 : sealB (b.take (b.length - 3)) = b) : sealF b = (b.take (b.length - 3), true) := by unfold sealF; rw [if_pos ⟨h, h2, h3⟩]
theorem c_impl_OpenSeal (b : List UInt8) (hb : b.length ≤ 1073741824) : PC Tryz.prog false 204 [.str b] (.tup [.str (sealF b).1, .bool (sealF b).2]) [] := by
  by_cases h3 : 3 ≤ b.length ∧ b.length ≤ 6000
  · have hw := i64_wrap (e := (b.length : Int) - 3) (by omega) (by omega)
    have ht : (IntKind.i64.wrap ((b.length : Int) - 3)).toNat = b.length - 3 := by rw [hw]; omega
    have hin : inB 3 (b.length : Int) 6000 = true := by simp only [inB, Bool.and_eq_true, decide_eq_true_eq]; omega
    have hc := c_impl_within (b.length : Int) 3 6000
    rw [hin] at hc
    have hs := c_impl_seal (b.take (b.length - 3)) (by rw [List.length_take]; omega)
    rw [← ht] at hs
    refine pc_at Tryz.func204 rfl (by kernel_rfl) 23 [.tmp 2, .tmp 3] rfl rfl ?_
    repeat' (conv => whnf); first
      | exact side_of (by first | omega | fail)
      | refine nameB_true ?_
      | refine nameB_false ?_
      | refine nameB_yes (by assumption) ?_
      | refine nameB_no (by assumption) ?_
      | refine nameB_dyes (by assumption) ?_
      | refine nameB_dno (by assumption) ?_
      | (refine nameB_dec (fun h => ?_) (fun h => ?_) <;> try simp only [lensB, midL_len, mkL_length, Int.toNat_natCast, fact_byte] at h)
      | (refine nameB_cases (fun h => ?_) (fun h => ?_) <;> try simp only [bne_iff_ne, ne_eq, bne_eq_false_iff_eq, beq_iff_eq, beq_eq_false_iff_ne, Bool.not_eq_true', Bool.not_eq_false', Bool.or_eq_true, Bool.or_eq_false_iff, lensB, midL_len, mkL_length, Int.toNat_natCast, fact_byte] at h)
      | refine splitB_true ?_
      | refine splitB_false ?_
      | (refine splitB_intro (fun h => ?_) (fun h => ?_) <;> subst h)
      | refine draw_text (by kernel_rfl) (by kernel_rfl) (by kernel_rfl) ?_
      | refine both_intro ?_ ?_
      | refine eitherB_l ?_
      | exact True.intro
      | (show Go.Ab.CallA _ _ _ _ _ _ _; first
          | refine Call0 (hc) rfl rfl ?_
          | refine Call0 (hs) rfl rfl ?_)
      | refine ix_map_at hx ?_
      | refine ix_map_at hy ?_
      | refine sl_pre (by omega) (fun _ => rfl) ?_
      | refine sl_suf (by omega) (fun _ => rfl) ?_
      | (refine ix_map2 hx (by omega) (by (try simp only [List.length_take]); omega) (fun y hy => ?_); try simp only [Int.toNat_natCast] at hy)
      | (refine ix_map (by omega) (by (try simp only [List.length_take]); omega) (fun x hx => ?_); try simp only [Int.toNat_natCast] at hx)
      | refine side_and (side_of (by first | (and_intros <;> first | exact Nat.le_of_ble_eq_true rfl | rfl | omega | (simp only [lensB, lensC, List.length_replicate, midL_len, mkL_length]; omega) | exact bytes_ok (Nat.le_of_ble_eq_true rfl) (by omega) (by simp only [lensB, lensC, List.length_replicate, midL_len, mkL_length]; omega) | exact bytes_okN (Nat.le_of_ble_eq_true rfl) (by simp only [lensB, lensC, List.length_replicate, midL_len, mkL_length]; omega)) | fail)) ?_
      | refine nilB_intro (fun h => ?_) ?_
      | refine side_and (side_of (show Go.Ab.structOk _ _ = true by kernel_rfl)) ?_
      | refine side_and (side_of (map_len (fun _ => rfl))) ?_
      | refine side_and (side_of (map_one (fun _ => rfl) _)) ?_
      | refine side_and ?_ ?_
      | refine LoadK_of rfl rfl ?_
      | refine LoadD_cel rfl rfl rfl rfl ?_
      | refine LoadD_of rfl ?_
      | refine StoreD_of rfl rfl rfl ?_
      | refine AppD_of rfl (by and_intros <;> first | rfl | decide) (by simp only [lensC]; first | (refine ⟨by omega, ?_⟩; refine Nat.le_trans (Nat.mul_le_mul_left _ (show _ ≤ 512 by decide)) ?_; omega) | fail) ?_
      | refine AppN_of rfl rfl (by and_intros <;> rfl) (by simp only [lensC]; first | (refine ⟨by omega, ?_⟩; refine Nat.le_trans (Nat.mul_le_mul_left _ (show _ ≤ 512 by decide)) ?_; omega) | fail) ?_
      | (show False; omega)
    all_goals
      conv => whnf
      first
      | (rw [sealF_no (b := b) (fun e => absurd e.2.2 (by first | (rw [← ht]; assumption) | assumption))]; exact OutA_plain rfl rfl rfl)
      | (rw [sealF_yes (b := b) h3.1 h3.2 (by first | (rw [← ht]; assumption) | assumption)]; exact OutA_plain rfl rfl (by rw [ht]; rfl))
  · have hin : inB 3 (b.length : Int) 6000 = false := by
      simp only [inB, Bool.and_eq_false_iff, decide_eq_false_iff_not]; omega
    have hc := c_impl_within (b.length : Int) 3 6000
    rw [hin] at hc
    rw [sealF_no (b := b) (fun e => h3 ⟨e.1, e.2.1⟩)]
    refine pc_at Tryz.func204 rfl (by kernel_rfl) 23 [.tmp 2, .tmp 3] rfl rfl ?_
    repeat' (conv => whnf); first
      | refine nameB_true ?_
      | refine nameB_false ?_
      | refine nameB_yes (by assumption) ?_
      | refine nameB_no (by assumption) ?_
      | refine nameB_dyes (by assumption) ?_
      | refine nameB_dno (by assumption) ?_
      | (refine nameB_dec (fun h => ?_) (fun h => ?_) <;> try simp only [lensB, midL_len, mkL_length, Int.toNat_natCast, fact_byte] at h)
      | (refine nameB_cases (fun h => ?_) (fun h => ?_) <;> try simp only [bne_iff_ne, ne_eq, bne_eq_false_iff_eq, beq_iff_eq, beq_eq_false_iff_ne, Bool.not_eq_true', Bool.not_eq_false', Bool.or_eq_true, Bool.or_eq_false_iff, lensB, midL_len, mkL_length, Int.toNat_natCast, fact_byte] at h)
      | refine splitB_true ?_
      | refine splitB_false ?_
      | (refine splitB_intro (fun h => ?_) (fun h => ?_) <;> subst h)
      | refine draw_text (by kernel_rfl) (by kernel_rfl) (by kernel_rfl) ?_
      | refine both_intro ?_ ?_
      | refine eitherB_l ?_
      | exact True.intro
      | (show Go.Ab.CallA _ _ _ _ _ _ _; refine Call0 (hc) rfl rfl ?_)
      | refine ix_map_at hx ?_
      | refine ix_map_at hy ?_
      | refine sl_pre (by omega) (fun _ => rfl) ?_
      | refine sl_suf (by omega) (fun _ => rfl) ?_
      | (refine ix_map2 hx (by omega) (by (try simp only [List.length_take]); omega) (fun y hy => ?_); try simp only [Int.toNat_natCast] at hy)
      | (refine ix_map (by omega) (by (try simp only [List.length_take]); omega) (fun x hx => ?_); try simp only [Int.toNat_natCast] at hx)
      | refine side_and (side_of (by first | (and_intros <;> first | exact Nat.le_of_ble_eq_true rfl | rfl | omega | (simp only [lensB, lensC, List.length_replicate, midL_len, mkL_length]; omega) | exact bytes_ok (Nat.le_of_ble_eq_true rfl) (by omega) (by simp only [lensB, lensC, List.length_replicate, midL_len, mkL_length]; omega) | exact bytes_okN (Nat.le_of_ble_eq_true rfl) (by simp only [lensB, lensC, List.length_replicate, midL_len, mkL_length]; omega)) | fail)) ?_
      | refine nilB_intro (fun h => ?_) ?_
      | refine side_and (side_of (show Go.Ab.structOk _ _ = true by kernel_rfl)) ?_
      | refine side_and (side_of (map_len (fun _ => rfl))) ?_
      | refine side_and (side_of (map_one (fun _ => rfl) _)) ?_
      | refine side_and ?_ ?_
      | refine LoadK_of rfl rfl ?_
      | refine LoadD_cel rfl rfl rfl rfl ?_
      | refine LoadD_of rfl ?_
      | refine StoreD_of rfl rfl rfl ?_
      | refine AppD_of rfl (by and_intros <;> first | rfl | decide) (by simp only [lensC]; first | (refine ⟨by omega, ?_⟩; refine Nat.le_trans (Nat.mul_le_mul_left _ (show _ ≤ 512 by decide)) ?_; omega) | fail) ?_
      | refine AppN_of rfl rfl (by and_intros <;> rfl) (by simp only [lensC]; first | (refine ⟨by omega, ?_⟩; refine Nat.le_trans (Nat.mul_le_mul_left _ (show _ ≤ 512 by decide)) ?_; omega) | fail) ?_
      | (show False; omega)
    all_goals
      conv => whnf
      first
      | exact OutA_plain rfl rfl rfl
theorem c_spec_OpenSeal (b : List UInt8) (hb : b.length ≤ 1073741824) : PC Tryz.prog false 175 [.str b] (.tup [.str (sealF b).1, .bool (sealF b).2]) [] := by
  have hw := i64_wrap (e := (b.length : Int) - 3) (by omega) (by omega)
  by_cases h3 : 3 ≤ b.length ∧ b.length ≤ 6000
  · have ht : (IntKind.i64.wrap ((b.length : Int) - 3)).toNat = b.length - 3 := by rw [hw]; omega
    have hs := c_spec_l1Seal (b.take (b.length - 3)) (by rw [List.length_take]; omega)
    rw [← ht] at hs
    refine pc_at Tryz.func175 rfl (by kernel_rfl) 26 [.tmp 2, .tmp 3] rfl rfl ?_
    repeat' (conv => whnf); first
      | exact side_of (by first | omega | fail)
      | refine nameB_true ?_
      | refine nameB_false ?_
      | refine nameB_yes (by assumption) ?_
      | refine nameB_no (by assumption) ?_
      | refine nameB_dyes (by assumption) ?_
      | refine nameB_dno (by assumption) ?_
      | (refine nameB_dec (fun h => ?_) (fun h => ?_) <;> try simp only [lensB, midL_len, mkL_length, Int.toNat_natCast, fact_byte] at h)
      | (refine nameB_cases (fun h => ?_) (fun h => ?_) <;> try simp only [bne_iff_ne, ne_eq, bne_eq_false_iff_eq, beq_iff_eq, beq_eq_false_iff_ne, Bool.not_eq_true', Bool.not_eq_false', Bool.or_eq_true, Bool.or_eq_false_iff, lensB, midL_len, mkL_length, Int.toNat_natCast, fact_byte] at h)
      | refine splitB_true ?_
      | refine splitB_false ?_
      | (refine splitB_intro (fun h => ?_) (fun h => ?_) <;> subst h)
      | refine draw_text (by kernel_rfl) (by kernel_rfl) (by kernel_rfl) ?_
      | refine both_intro ?_ ?_
      | refine eitherB_l ?_
      | exact True.intro
      | (show Go.Ab.CallA _ _ _ _ _ _ _; refine Call0 (hs) rfl rfl ?_)
      | refine ix_map_at hx ?_
      | refine ix_map_at hy ?_
      | refine sl_pre (by omega) (fun _ => rfl) ?_
      | refine sl_suf (by omega) (fun _ => rfl) ?_
      | (refine ix_map2 hx (by omega) (by (try simp only [List.length_take]); omega) (fun y hy => ?_); try simp only [Int.toNat_natCast] at hy)
      | (refine ix_map (by omega) (by (try simp only [List.length_take]); omega) (fun x hx => ?_); try simp only [Int.toNat_natCast] at hx)
      | refine side_and (side_of (by first | (and_intros <;> first | exact Nat.le_of_ble_eq_true rfl | rfl | omega | (simp only [lensB, lensC, List.length_replicate, midL_len, mkL_length]; omega) | exact bytes_ok (Nat.le_of_ble_eq_true rfl) (by omega) (by simp only [lensB, lensC, List.length_replicate, midL_len, mkL_length]; omega) | exact bytes_okN (Nat.le_of_ble_eq_true rfl) (by simp only [lensB, lensC, List.length_replicate, midL_len, mkL_length]; omega)) | fail)) ?_
      | refine nilB_intro (fun h => ?_) ?_
      | refine side_and (side_of (show Go.Ab.structOk _ _ = true by kernel_rfl)) ?_
      | refine side_and (side_of (map_len (fun _ => rfl))) ?_
      | refine side_and (side_of (map_one (fun _ => rfl) _)) ?_
      | refine side_and ?_ ?_
      | refine LoadK_of rfl rfl ?_
      | refine LoadD_cel rfl rfl rfl rfl ?_
      | refine LoadD_of rfl ?_
      | refine StoreD_of rfl rfl rfl ?_
      | refine AppD_of rfl (by and_intros <;> first | rfl | decide) (by simp only [lensC]; first | (refine ⟨by omega, ?_⟩; refine Nat.le_trans (Nat.mul_le_mul_left _ (show _ ≤ 512 by decide)) ?_; omega) | fail) ?_
      | refine AppN_of rfl rfl (by and_intros <;> rfl) (by simp only [lensC]; first | (refine ⟨by omega, ?_⟩; refine Nat.le_trans (Nat.mul_le_mul_left _ (show _ ≤ 512 by decide)) ?_; omega) | fail) ?_
      | (show False; omega)
    all_goals
      conv => whnf
      first
      | (exfalso; omega)
      | (rw [sealF_no (b := b) (fun e => absurd e.2.2 (by first | (rw [← ht]; assumption) | assumption))]; exact OutA_plain rfl rfl rfl)
      | (rw [sealF_yes (b := b) h3.1 h3.2 (by first | (rw [← ht]; assumption) | assumption)]; exact OutA_plain rfl rfl (by rw [ht]; rfl))
  · rw [sealF_no (b := b) (fun e => h3 ⟨e.1, e.2.1⟩)]
    refine pc_at Tryz.func175 rfl (by kernel_rfl) 26 [.tmp 2, .tmp 3] rfl rfl ?_
    repeat' (conv => whnf); first
      | refine nameB_true ?_
      | refine nameB_false ?_
      | refine nameB_yes (by assumption) ?_
      | refine nameB_no (by assumption) ?_
      | refine nameB_dyes (by assumption) ?_
      | refine nameB_dno (by assumption) ?_
      | (refine nameB_dec (fun h => ?_) (fun h => ?_) <;> try simp only [lensB, midL_len, mkL_length, Int.toNat_natCast, fact_byte] at h)
      | (refine nameB_cases (fun h => ?_) (fun h => ?_) <;> try simp only [bne_iff_ne, ne_eq, bne_eq_false_iff_eq, beq_iff_eq, beq_eq_false_iff_ne, Bool.not_eq_true', Bool.not_eq_false', Bool.or_eq_true, Bool.or_eq_false_iff, lensB, midL_len, mkL_length, Int.toNat_natCast, fact_byte] at h)
      | refine splitB_true ?_
      | refine splitB_false ?_
      | (refine splitB_intro (fun h => ?_) (fun h => ?_) <;> subst h)
      | refine draw_text (by kernel_rfl) (by kernel_rfl) (by kernel_rfl) ?_
      | refine both_intro ?_ ?_
      | refine eitherB_l ?_
      | exact True.intro
      | refine ix_map_at hx ?_
      | refine ix_map_at hy ?_
      | refine sl_pre (by omega) (fun _ => rfl) ?_
      | refine sl_suf (by omega) (fun _ => rfl) ?_
      | (refine ix_map2 hx (by omega) (by (try simp only [List.length_take]); omega) (fun y hy => ?_); try simp only [Int.toNat_natCast] at hy)
      | (refine ix_map (by omega) (by (try simp only [List.length_take]); omega) (fun x hx => ?_); try simp only [Int.toNat_natCast] at hx)
      | refine side_and (side_of (by first | (and_intros <;> first | exact Nat.le_of_ble_eq_true rfl | rfl | omega | (simp only [lensB, lensC, List.length_replicate, midL_len, mkL_length]; omega) | exact bytes_ok (Nat.le_of_ble_eq_true rfl) (by omega) (by simp only [lensB, lensC, List.length_replicate, midL_len, mkL_length]; omega) | exact bytes_okN (Nat.le_of_ble_eq_true rfl) (by simp only [lensB, lensC, List.length_replicate, midL_len, mkL_length]; omega)) | fail)) ?_
      | refine nilB_intro (fun h => ?_) ?_
      | refine side_and (side_of (show Go.Ab.structOk _ _ = true by kernel_rfl)) ?_
      | refine side_and (side_of (map_len (fun _ => rfl))) ?_
      | refine side_and (side_of (map_one (fun _ => rfl) _)) ?_
      | refine side_and ?_ ?_
      | refine LoadK_of rfl rfl ?_
      | refine LoadD_cel rfl rfl rfl rfl ?_
      | refine LoadD_of rfl ?_
      | refine StoreD_of rfl rfl rfl ?_
      | refine AppD_of rfl (by and_intros <;> first | rfl | decide) (by simp only [lensC]; first | (refine ⟨by omega, ?_⟩; refine Nat.le_trans (Nat.mul_le_mul_left _ (show _ ≤ 512 by decide)) ?_; omega) | fail) ?_
      | refine AppN_of rfl rfl (by and_intros <;> rfl) (by simp only [lensC]; first | (refine ⟨by omega, ?_⟩; refine Nat.le_trans (Nat.mul_le_mul_left _ (show _ ≤ 512 by decide)) ?_; omega) | fail) ?_
      | (show False; omega)
    all_goals
      conv => whnf
      first
      | exact OutA_plain rfl rfl rfl
      | (exfalso; omega)
end Go.Proofs.YtfpkfnfgloonhaaGreat
