/-
  What the reference's readers give.
  No condition.
-/
import Derived.Test.YtfpkfnfgloonhaaGreatRead3
namespace Go.Proofs.YtfpkfnfgloonhaaGreat
open Go.Ab
set_option linter.unusedSimpArgs false
set_option maxRecDepth 20000
set_option maxHeartbeats 4000000
set_option linter.unusedVariables false

theorem oneF_no {b : List UInt8} {a : Nat} {f : Bool} (h : f = true ∨ (a : Int) ≥ b.length) : oneF b a f = (0, a, true) := by
  cases f with
  | true => rfl
  | false =>
    unfold oneF
    rw [List.getElem?_eq_none_iff.2 (by have := h.resolve_left (by simp); omega)]
theorem oneF_yes {b : List UInt8} {a : Nat} {x : UInt8} (h : b[a]? = some x) : oneF b a false = ((x.toNat : Int), a + 1, false) := by
  unfold oneF
  rw [h]
theorem c_spec_one (b : List UInt8) (a : Nat) (f : Bool) (ha : a ≤ b.length) (hb : b.length ≤ 1073741824) : BC Tryz.prog 176 196 [.str b, .int .i64 (a : Int), .bool f] [] (.int .i64 (oneF b a f).1) [] [.str b, .int .i64 ((oneF b a f).2.1 : Int), .bool (oneF b a f).2.2] := by
  have hw2 := i64_wrap (e := (a : Int) + 1) (by omega) (by omega)
  have hw3 : IntKind.i64.wrap (IntKind.i64.wrap ((a : Int) + 1) - 1) = a := by rw [hw2, i64_wrap (by omega) (by omega)]; omega
  cases f with
  | true =>
    refine bc_of Tryz.func176 rfl (by kernel_rfl) 3 40 [.tmp 2] rfl rfl rfl (by decide) rfl ?_
    repeat' (conv => whnf); first
      | refine nameB_true ?_
      | refine nameB_false ?_
      | refine nameB_yes (by assumption) ?_
      | refine nameB_no (by assumption) ?_
      | refine nameB_dyes (by assumption) ?_
      | refine nameB_dno (by assumption) ?_
      | (refine nameB_dec (fun h => ?_) (fun h => ?_) <;> try simp only [lensB, midL_len, mkL_length, Int.toNat_natCast, fact_byte] at h)
      | (refine nameB_cases (fun h => ?_) (fun h => ?_) <;> try simp only [bne_iff_ne, ne_eq, bne_eq_false_iff_eq, beq_iff_eq, beq_eq_false_iff_ne, Bool.not_eq_true', Bool.not_eq_false', Bool.or_eq_true, Bool.or_eq_false_iff, lensB, midL_len, mkL_length, Int.toNat_natCast, fact_byte] at h)
      | refine splitB_true ?_
      | refine splitB_false ?_
      | (refine splitB_intro (fun h => ?_) (fun h => ?_) <;> subst h)
      | refine draw_text (by kernel_rfl) (by kernel_rfl) (by kernel_rfl) ?_
      | refine both_intro ?_ ?_
      | refine eitherB_l ?_
      | exact True.intro
      | refine ix_map_at hx ?_
      | refine ix_map_at hy ?_
      | refine sl_pre (by omega) (fun _ => rfl) ?_
      | refine sl_suf (by omega) (fun _ => rfl) ?_
      | (refine ix_map2 hx (by omega) (by (try simp only [List.length_take]); omega) (fun y hy => ?_); try simp only [Int.toNat_natCast] at hy)
      | (refine ix_map (by omega) (by (try simp only [List.length_take]); omega) (fun x hx => ?_); try simp only [Int.toNat_natCast] at hx)
      | refine side_and (side_of (by first | (and_intros <;> first | exact Nat.le_of_ble_eq_true rfl | rfl | omega | (simp only [lensB, lensC, List.length_replicate, midL_len, mkL_length]; omega) | exact bytes_ok (Nat.le_of_ble_eq_true rfl) (by omega) (by simp only [lensB, lensC, List.length_replicate, midL_len, mkL_length]; omega) | exact bytes_okN (Nat.le_of_ble_eq_true rfl) (by simp only [lensB, lensC, List.length_replicate, midL_len, mkL_length]; omega)) | fail)) ?_
      | refine nilB_intro (fun h => ?_) ?_
      | refine side_and (side_of (show Go.Ab.structOk _ _ = true by kernel_rfl)) ?_
      | refine side_and (side_of (map_len (fun _ => rfl))) ?_
      | refine side_and (side_of (map_one (fun _ => rfl) _)) ?_
      | refine side_and ?_ ?_
      | refine LoadK_of rfl rfl ?_
      | refine LoadD_cel rfl rfl rfl rfl ?_
      | refine LoadD_of rfl ?_
      | refine StoreD_of rfl rfl rfl ?_
      | refine AppD_of rfl (by and_intros <;> first | rfl | decide) (by simp only [lensC]; first | (refine ⟨by omega, ?_⟩; refine Nat.le_trans (Nat.mul_le_mul_left _ (show _ ≤ 512 by decide)) ?_; omega) | fail) ?_
      | refine AppN_of rfl rfl (by and_intros <;> rfl) (by simp only [lensC]; first | (refine ⟨by omega, ?_⟩; refine Nat.le_trans (Nat.mul_le_mul_left _ (show _ ≤ 512 by decide)) ?_; omega) | fail) ?_
      | (show False; omega)
    all_goals
      conv => whnf
      exact OutB_plain rfl rfl rfl rfl rfl rfl rfl
  | false =>
    by_cases hl : (a : Int) ≥ b.length
    · rw [oneF_no (b := b) (a := a) (f := false) (.inr hl)]
      refine bc_of Tryz.func176 rfl (by kernel_rfl) 3 40 [.tmp 2] rfl rfl rfl (by decide) rfl ?_
      repeat' (conv => whnf); first
        | refine nameB_true ?_
        | refine nameB_false ?_
        | refine nameB_yes (by assumption) ?_
        | refine nameB_no (by assumption) ?_
        | refine nameB_dyes (by assumption) ?_
        | refine nameB_dno (by assumption) ?_
        | (refine nameB_dec (fun h => ?_) (fun h => ?_) <;> try simp only [lensB, midL_len, mkL_length, Int.toNat_natCast, fact_byte] at h)
        | (refine nameB_cases (fun h => ?_) (fun h => ?_) <;> try simp only [bne_iff_ne, ne_eq, bne_eq_false_iff_eq, beq_iff_eq, beq_eq_false_iff_ne, Bool.not_eq_true', Bool.not_eq_false', Bool.or_eq_true, Bool.or_eq_false_iff, lensB, midL_len, mkL_length, Int.toNat_natCast, fact_byte] at h)
        | refine splitB_true ?_
        | refine splitB_false ?_
        | (refine splitB_intro (fun h => ?_) (fun h => ?_) <;> subst h)
        | refine draw_text (by kernel_rfl) (by kernel_rfl) (by kernel_rfl) ?_
        | refine both_intro ?_ ?_
        | refine eitherB_l ?_
        | exact True.intro
        | refine ix_map_at hx ?_
        | refine ix_map_at hy ?_
        | refine sl_pre (by omega) (fun _ => rfl) ?_
        | refine sl_suf (by omega) (fun _ => rfl) ?_
        | (refine ix_map2 hx (by omega) (by (try simp only [List.length_take]); omega) (fun y hy => ?_); try simp only [Int.toNat_natCast] at hy)
        | (refine ix_map (by omega) (by (try simp only [List.length_take]); omega) (fun x hx => ?_); try simp only [Int.toNat_natCast] at hx)
        | refine side_and (side_of (by first | (and_intros <;> first | exact Nat.le_of_ble_eq_true rfl | rfl | omega | (simp only [lensB, lensC, List.length_replicate, midL_len, mkL_length]; omega) | exact bytes_ok (Nat.le_of_ble_eq_true rfl) (by omega) (by simp only [lensB, lensC, List.length_replicate, midL_len, mkL_length]; omega) | exact bytes_okN (Nat.le_of_ble_eq_true rfl) (by simp only [lensB, lensC, List.length_replicate, midL_len, mkL_length]; omega)) | fail)) ?_
        | refine nilB_intro (fun h => ?_) ?_
        | refine side_and (side_of (show Go.Ab.structOk _ _ = true by kernel_rfl)) ?_
        | refine side_and (side_of (map_len (fun _ => rfl))) ?_
        | refine side_and (side_of (map_one (fun _ => rfl) _)) ?_
        | refine side_and ?_ ?_
        | refine LoadK_of rfl rfl ?_
        | refine LoadD_cel rfl rfl rfl rfl ?_
        | refine LoadD_of rfl ?_
        | refine StoreD_of rfl rfl rfl ?_
        | refine AppD_of rfl (by and_intros <;> first | rfl | decide) (by simp only [lensC]; first | (refine ⟨by omega, ?_⟩; refine Nat.le_trans (Nat.mul_le_mul_left _ (show _ ≤ 512 by decide)) ?_; omega) | fail) ?_
        | refine AppN_of rfl rfl (by and_intros <;> rfl) (by simp only [lensC]; first | (refine ⟨by omega, ?_⟩; refine Nat.le_trans (Nat.mul_le_mul_left _ (show _ ≤ 512 by decide)) ?_; omega) | fail) ?_
        | (show False; omega)
      all_goals
        conv => whnf
        exact OutB_plain rfl rfl rfl rfl rfl rfl rfl
    · have hx : b[a]? = some b[a] := List.getElem?_eq_getElem (by omega)
      rw [oneF_yes hx]
      have hg : b.getD (IntKind.i64.wrap (IntKind.i64.wrap ((a : Int) + 1) - 1)).toNat 0 = b[a] := by
        rw [hw3, Int.toNat_natCast, List.getD_eq_getElem?_getD, hx]; rfl
      have hu := i64_wrap (e := (b[a].toNat : Int)) (by omega) (by have := b[a].toNat_lt; omega)
      refine bc_of Tryz.func176 rfl (by kernel_rfl) 3 40 [.tmp 2] rfl rfl rfl (by decide) rfl ?_
      repeat' (conv => whnf); first
        | refine nameB_true ?_
        | refine nameB_false ?_
        | refine nameB_yes (by assumption) ?_
        | refine nameB_no (by assumption) ?_
        | refine nameB_dyes (by assumption) ?_
        | refine nameB_dno (by assumption) ?_
        | (refine nameB_dec (fun h => ?_) (fun h => ?_) <;> try simp only [lensB, midL_len, mkL_length, Int.toNat_natCast, fact_byte] at h)
        | (refine nameB_cases (fun h => ?_) (fun h => ?_) <;> try simp only [bne_iff_ne, ne_eq, bne_eq_false_iff_eq, beq_iff_eq, beq_eq_false_iff_ne, Bool.not_eq_true', Bool.not_eq_false', Bool.or_eq_true, Bool.or_eq_false_iff, lensB, midL_len, mkL_length, Int.toNat_natCast, fact_byte] at h)
        | refine splitB_true ?_
        | refine splitB_false ?_
        | (refine splitB_intro (fun h => ?_) (fun h => ?_) <;> subst h)
        | refine draw_text (by kernel_rfl) (by kernel_rfl) (by kernel_rfl) ?_
        | refine both_intro ?_ ?_
        | refine eitherB_l ?_
        | exact True.intro
        | refine ix_map_at hx ?_
        | refine ix_map_at hy ?_
        | refine sl_pre (by omega) (fun _ => rfl) ?_
        | refine sl_suf (by omega) (fun _ => rfl) ?_
        | (refine ix_map2 hx (by omega) (by (try simp only [List.length_take]); omega) (fun y hy => ?_); try simp only [Int.toNat_natCast] at hy)
        | (refine ix_map (by omega) (by (try simp only [List.length_take]); omega) (fun x hx => ?_); try simp only [Int.toNat_natCast] at hx)
        | refine side_and (side_of (by first | (and_intros <;> first | exact Nat.le_of_ble_eq_true rfl | rfl | omega | (simp only [lensB, lensC, List.length_replicate, midL_len, mkL_length]; omega) | exact bytes_ok (Nat.le_of_ble_eq_true rfl) (by omega) (by simp only [lensB, lensC, List.length_replicate, midL_len, mkL_length]; omega) | exact bytes_okN (Nat.le_of_ble_eq_true rfl) (by simp only [lensB, lensC, List.length_replicate, midL_len, mkL_length]; omega)) | fail)) ?_
        | refine nilB_intro (fun h => ?_) ?_
        | refine side_and (side_of (show Go.Ab.structOk _ _ = true by kernel_rfl)) ?_
        | refine side_and (side_of (map_len (fun _ => rfl))) ?_
        | refine side_and (side_of (map_one (fun _ => rfl) _)) ?_
        | refine side_and ?_ ?_
        | refine LoadK_of rfl rfl ?_
        | refine LoadD_cel rfl rfl rfl rfl ?_
        | refine LoadD_of rfl ?_
        | refine StoreD_of rfl rfl rfl ?_
        | refine AppD_of rfl (by and_intros <;> first | rfl | decide) (by simp only [lensC]; first | (refine ⟨by omega, ?_⟩; refine Nat.le_trans (Nat.mul_le_mul_left _ (show _ ≤ 512 by decide)) ?_; omega) | fail) ?_
        | refine AppN_of rfl rfl (by and_intros <;> rfl) (by simp only [lensC]; first | (refine ⟨by omega, ?_⟩; refine Nat.le_trans (Nat.mul_le_mul_left _ (show _ ≤ 512 by decide)) ?_; omega) | fail) ?_
        | (show False; omega)
      all_goals
        conv => whnf
        refine OutB_plain rfl rfl rfl rfl rfl ?_ ?_
        · refine congrArg (AV.int .i64) ?_
          rw [hg]; exact hu
        · exact congrArg (fun z : Int => [AV.str b, AV.int .i64 z, AV.bool false]) hw2
section
variable {b : List UInt8} {s f : Nat} {n q : Int} {a : Nat} {x : UInt8}
theorem numM_none' (hf : 1 ≤ f) (h : b[a]? = none) : numM b s f n q a = (0, a, true) := by
  obtain ⟨f, rfl⟩ : ∃ g, f = g + 1 := ⟨f - 1, by omega⟩
  unfold numM; rw [h]
theorem numM_fin' (hf : 1 ≤ f) (h : b[a]? = some x) (h3 : x.toNat < 128) : numM b s f n q a = finS b s (n + ((x.toNat % 128 : Nat) : Int) * q) (a + 1) := by
  obtain ⟨f, rfl⟩ : ∃ g, f = g + 1 := ⟨f - 1, by omega⟩
  unfold numM; rw [h]; simp only; rw [if_pos h3]
theorem numM_go' (hf : 1 ≤ f) (h : b[a]? = some x) (h3 : ¬ x.toNat < 128) : numM b s f n q a = numM b s (f - 1) (n + ((x.toNat % 128 : Nat) : Int) * q) (q * 128) (a + 1) := by
  obtain ⟨f, rfl⟩ : ∃ g, f = g + 1 := ⟨f - 1, by omega⟩
  conv => lhs; unfold numM
  rw [h]; simp only; rw [if_neg h3]; rfl
theorem numM_zero (hf : f = 0) : numM b s f n q a = finS b s n a := by subst hf; rfl
theorem finS_big (h : n > 1000000000) : finS b s n a = (0, a, true) := by unfold finS; rw [if_pos (.inl h)]
theorem finS_ne (h : ¬ numB n = (b.take a).drop s) : finS b s n a = (0, a, true) := by unfold finS; rw [if_pos (.inr h)]
theorem finS_yes (h : ¬ n > 1000000000) (h2 : numB n = (b.take a).drop s) : finS b s n a = (n, a, false) := by unfold finS; rw [if_neg (fun e => e.elim h (fun e => e h2))]
end
theorem c_spec_one1_no (b : List UInt8) (a : Nat) (ha : a ≤ b.length) (hb : b.length ≤ 1073741824) (h : b[a]? = none) : BC Tryz.prog 176 196 [.str b, .int .i64 (a : Int), .bool false] [] (.int .i64 0) [] [.str b, .int .i64 (a : Int), .bool true] := by
  have := c_spec_one b a false ha hb
  rw [oneF_no (.inr (by have := List.getElem?_eq_none_iff.1 h; omega))] at this
  exact this
theorem c_spec_one1 (b : List UInt8) (a : Nat) (x : UInt8) (hb : b.length ≤ 1073741824) (h : b[a]? = some x) : BC Tryz.prog 176 196 [.str b, .int .i64 (a : Int), .bool false] [] (.int .i64 (x.toNat : Int)) [] [.str b, .int .i64 ((a + 1 : Nat) : Int), .bool false] := by
  have hlt := (List.getElem?_eq_some_iff.1 h).1
  have := c_spec_one b a false (by omega) hb
  rw [oneF_yes h] at this
  exact this
theorem num_wS {x : UInt8} {n : Int} {f : Nat} (h0 : 0 ≤ n) (h1 : n ≤ 34359738368) : IntKind.i64.wrap (n + IntKind.i64.wrap (((x.toNat : Int).tmod 128) * qF f)) = n + ((x.toNat % 128 : Nat) : Int) * qF f := by
  have hb := rq_bnd (x := x) (f := f)
  have e1 : ((x.toNat : Int).tmod 128) = ((x.toNat % 128 : Nat) : Int) := by
    rw [Int.tmod_eq_emod_of_nonneg (by omega)]
    omega
  rw [e1, i64_wrap (e := ((x.toNat % 128 : Nat) : Int) * qF f) (by omega) (by omega), i64_wrap (by omega) (by omega)]
theorem rq_lt {x : UInt8} {f : Nat} {n : Int} (h : n < qF f) : n + ((x.toNat % 128 : Nat) : Int) * qF f < qF f * 128 := by
  have hq := qF_bnd f
  have h2 : ((x.toNat % 128 : Nat) : Int) * qF f ≤ 127 * qF f := Int.mul_le_mul_of_nonneg_right (by omega) (by omega)
  omega
theorem c_spec_num (b : List UInt8) (a0 : Nat) (f : Bool) (ha : a0 ≤ b.length) (hb : b.length ≤ 1073741824) : BC Tryz.prog 173 196 [.str b, .int .i64 (a0 : Int), .bool f] [] (.int .i64 (numFS b a0 f).1) [] [.str b, .int .i64 ((numFS b a0 f).2.1 : Int), .bool (numFS b a0 f).2.2] := by
  cases f with
  | true =>
    refine bc_of Tryz.func173 rfl (by kernel_rfl) 3 55 [.tmp 2] rfl rfl rfl (by decide) rfl ?_
    repeat' (conv => whnf); first
      | refine nameB_true ?_
      | refine nameB_false ?_
      | refine nameB_yes (by assumption) ?_
      | refine nameB_no (by assumption) ?_
      | refine nameB_dyes (by assumption) ?_
      | refine nameB_dno (by assumption) ?_
      | (refine nameB_dec (fun h => ?_) (fun h => ?_) <;> try simp only [lensB, midL_len, mkL_length, Int.toNat_natCast, fact_byte] at h)
      | (refine nameB_cases (fun h => ?_) (fun h => ?_) <;> try simp only [bne_iff_ne, ne_eq, bne_eq_false_iff_eq, beq_iff_eq, beq_eq_false_iff_ne, Bool.not_eq_true', Bool.not_eq_false', Bool.or_eq_true, Bool.or_eq_false_iff, lensB, midL_len, mkL_length, Int.toNat_natCast, fact_byte] at h)
      | refine splitB_true ?_
      | refine splitB_false ?_
      | (refine splitB_intro (fun h => ?_) (fun h => ?_) <;> subst h)
      | refine draw_text (by kernel_rfl) (by kernel_rfl) (by kernel_rfl) ?_
      | refine both_intro ?_ ?_
      | refine eitherB_l ?_
      | exact True.intro
      | (show Go.Ab.Loop _ _ _; (refine Loop_at [0, 3] [] (Nat) (fun u => u ≤ 5) (fun u => [(4, .int .i64 0), (5, .int .i64 1), (6, .int .i64 0)]) (fun u => [(0, ⟨true, 196, 3, [[.str b, .int .i64 (a0 : Int), .bool true]]⟩)]) (fun u => 0) 0 ⟨by first | (simp_all <;> fail) | rfl | fail, by first | (simp_all <;> fail) | rfl | fail, by first | (simp_all <;> fail) | rfl | fail, trivial⟩ ⟨by first | rfl | rfl | fail | fail, trivial⟩ (by (try dsimp only); first | (exact Nat.zero_le _) | fail) ?_; (conv => whnf); refine side_and (side_of (by first | exact fun u => rfl | exact fun u => by simp [headOk, closedE, closedO, closedL, AV.closed, hcap.closed, hasId, AObj.box, BK.ofB])) ?_; rintro u hT; try dsimp only at hT))
      | (show Go.Ab.Again _ _ _ _ _ _ _ _ _ _ _; refine Again_of 0 ⟨by first | (simp_all <;> fail) | rfl | fail, by first | (simp_all <;> fail) | rfl | fail, by first | (simp_all <;> fail) | rfl | fail, trivial⟩ ⟨by first | rfl | rfl | fail | fail, trivial⟩ (by first | (and_intros <;> first | rfl | trivial) | fail) (by first | (and_intros <;> first | rfl | trivial) | fail) rfl rfl rfl (by (try dsimp only); first | (exact Nat.zero_le _) | fail) (show _ < _ by (try dsimp only); omega))
      | (show Go.Ab.CallA _ _ _ _ _ _ _; refine CallB (c_spec_one b a0 true ha hb) rfl rfl rfl rfl rfl rfl ?_)
      | refine ix_map_at hx ?_
      | refine ix_map_at hy ?_
      | refine sl_pre (by omega) (fun _ => rfl) ?_
      | refine sl_suf (by omega) (fun _ => rfl) ?_
      | (refine ix_map2 hx (by omega) (by (try simp only [List.length_take]); omega) (fun y hy => ?_); try simp only [Int.toNat_natCast] at hy)
      | (refine ix_map (by omega) (by (try simp only [List.length_take]); omega) (fun x hx => ?_); try simp only [Int.toNat_natCast] at hx)
      | refine side_and (side_of (by first | (and_intros <;> first | exact Nat.le_of_ble_eq_true rfl | rfl | omega | (simp only [lensB, lensC, List.length_replicate, midL_len, mkL_length]; omega) | exact bytes_ok (Nat.le_of_ble_eq_true rfl) (by omega) (by simp only [lensB, lensC, List.length_replicate, midL_len, mkL_length]; omega) | exact bytes_okN (Nat.le_of_ble_eq_true rfl) (by simp only [lensB, lensC, List.length_replicate, midL_len, mkL_length]; omega)) | fail)) ?_
      | refine nilB_intro (fun h => ?_) ?_
      | refine side_and (side_of (show Go.Ab.structOk _ _ = true by kernel_rfl)) ?_
      | refine side_and (side_of (map_len (fun _ => rfl))) ?_
      | refine side_and (side_of (map_one (fun _ => rfl) _)) ?_
      | refine side_and ?_ ?_
      | refine LoadK_of rfl rfl ?_
      | refine LoadD_cel rfl rfl rfl rfl ?_
      | refine LoadD_of rfl ?_
      | refine StoreD_of rfl rfl rfl ?_
      | refine AppD_of rfl (by and_intros <;> first | rfl | decide) (by simp only [lensC]; first | (refine ⟨by omega, ?_⟩; refine Nat.le_trans (Nat.mul_le_mul_left _ (show _ ≤ 512 by decide)) ?_; omega) | fail) ?_
      | refine AppN_of rfl rfl (by and_intros <;> rfl) (by simp only [lensC]; first | (refine ⟨by omega, ?_⟩; refine Nat.le_trans (Nat.mul_le_mul_left _ (show _ ≤ 512 by decide)) ?_; omega) | fail) ?_
      | (show False; omega)
    all_goals
      conv => whnf
      exact OutB_plain rfl rfl rfl rfl rfl rfl rfl
  | false =>
    refine bc_of Tryz.func173 rfl (by kernel_rfl) 3 55 [.tmp 2] rfl rfl rfl (by decide) rfl ?_
    repeat' (conv => whnf); first
      | refine nameB_true ?_
      | refine nameB_false ?_
      | refine nameB_yes (by assumption) ?_
      | refine nameB_no (by assumption) ?_
      | refine nameB_dyes (by assumption) ?_
      | refine nameB_dno (by assumption) ?_
      | (refine nameB_dec (fun h => ?_) (fun h => ?_) <;> try simp only [lensB, midL_len, mkL_length, Int.toNat_natCast, fact_byte] at h)
      | (refine nameB_cases (fun h => ?_) (fun h => ?_) <;> try simp only [bne_iff_ne, ne_eq, bne_eq_false_iff_eq, beq_iff_eq, beq_eq_false_iff_ne, Bool.not_eq_true', Bool.not_eq_false', Bool.or_eq_true, Bool.or_eq_false_iff, lensB, midL_len, mkL_length, Int.toNat_natCast, fact_byte] at h)
      | refine splitB_true ?_
      | refine splitB_false ?_
      | (refine splitB_intro (fun h => ?_) (fun h => ?_) <;> subst h)
      | refine draw_text (by kernel_rfl) (by kernel_rfl) (by kernel_rfl) ?_
      | refine both_intro ?_ ?_
      | refine eitherB_l ?_
      | exact True.intro
      | (show Go.Ab.Loop _ _ _; (refine Loop_at [0, 3] [] (Nat × Int × Nat) (fun j => match j with | (f, n, a) => numM b a0 f n (qF (f + 1)) a = numM b a0 5 0 1 a0 ∧ a + f = a0 + 5 ∧ a ≤ b.length ∧ 0 ≤ n ∧ n < qF (f + 1) ∧ a0 ≤ a) (fun j => match j with | (f, n, a) => [(4, .int .i64 n), (5, .int .i64 (qF (f + 1))), (6, .int .i64 (5 - (f : Int)))]) (fun j => match j with | (f, n, a) => [(0, ⟨true, 196, 3, [[.str b, .int .i64 (a : Int), .bool false]]⟩)]) (fun j => match j with | (f, n, a) => f) (5, 0, a0) ⟨by first | first | rfl | exact congrArg (AV.int .i64) hw | exact congrArg (AV.int .i64) ((i64_wrap (by omega) (by omega)).trans ((qF_next (f := f + 1) (by omega) (by omega)).symm.trans (congrArg qF (by omega)))) | exact congrArg (AV.int .i64) ((i64_wrap (by omega) (by omega)).trans (by omega)) | rfl | fail, by first | first | rfl | exact congrArg (AV.int .i64) hw | exact congrArg (AV.int .i64) ((i64_wrap (by omega) (by omega)).trans ((qF_next (f := f + 1) (by omega) (by omega)).symm.trans (congrArg qF (by omega)))) | exact congrArg (AV.int .i64) ((i64_wrap (by omega) (by omega)).trans (by omega)) | rfl | fail, by first | first | rfl | exact congrArg (AV.int .i64) hw | exact congrArg (AV.int .i64) ((i64_wrap (by omega) (by omega)).trans ((qF_next (f := f + 1) (by omega) (by omega)).symm.trans (congrArg qF (by omega)))) | exact congrArg (AV.int .i64) ((i64_wrap (by omega) (by omega)).trans (by omega)) | rfl | fail, trivial⟩ ⟨by first | rfl | rfl | fail | fail, trivial⟩ (by (try dsimp only); first | (exact ⟨rfl, rfl, ha, by omega, by decide, Nat.le_refl _⟩) | fail) ?_; (conv => whnf); refine side_and (side_of (by first | exact fun ⟨f, n, a⟩ => rfl | exact fun ⟨f, n, a⟩ => by simp [headOk, closedE, closedO, closedL, AV.closed, hcap.closed, hasId, AObj.box, BK.ofB])) ?_; rintro ⟨f, n, a⟩ hT; try dsimp only at hT))
      | (show Go.Ab.Again _ _ _ _ _ _ _ _ _ _ _; refine Again_of (f - 1, n + ((x.toNat % 128 : Nat) : Int) * qF (f + 1), a + 1) ⟨by first | first | rfl | exact congrArg (AV.int .i64) hw | exact congrArg (AV.int .i64) ((i64_wrap (by omega) (by omega)).trans ((qF_next (f := f + 1) (by omega) (by omega)).symm.trans (congrArg qF (by omega)))) | exact congrArg (AV.int .i64) ((i64_wrap (by omega) (by omega)).trans (by omega)) | rfl | fail, by first | first | rfl | exact congrArg (AV.int .i64) hw | exact congrArg (AV.int .i64) ((i64_wrap (by omega) (by omega)).trans ((qF_next (f := f + 1) (by omega) (by omega)).symm.trans (congrArg qF (by omega)))) | exact congrArg (AV.int .i64) ((i64_wrap (by omega) (by omega)).trans (by omega)) | rfl | fail, by first | first | rfl | exact congrArg (AV.int .i64) hw | exact congrArg (AV.int .i64) ((i64_wrap (by omega) (by omega)).trans ((qF_next (f := f + 1) (by omega) (by omega)).symm.trans (congrArg qF (by omega)))) | exact congrArg (AV.int .i64) ((i64_wrap (by omega) (by omega)).trans (by omega)) | rfl | fail, trivial⟩ ⟨by first | rfl | rfl | fail | fail, trivial⟩ (by first | (and_intros <;> first | rfl | trivial) | fail) (by first | (and_intros <;> first | rfl | trivial) | fail) rfl rfl rfl (by (try dsimp only); first | ((have hq := qF_next (f := f + 1) (by omega) (by omega); have hlt2 := rq_lt (x := x) hT.2.2.2.2.1; have e1 : f - 1 + 1 = f + 1 - 1 := (by omega); exact ⟨by rw [e1, hq]; exact (numM_go' (by omega) hx (by omega)).symm.trans hT.1, by omega, by omega, by omega, by rw [e1, hq]; exact hlt2, by omega⟩)) | fail) (show _ < _ by (try dsimp only); omega))
      | (show Go.Ab.CallA _ _ _ _ _ _ _; first
          | refine Call0 (c_spec_l1NumB9 (n + ((x.toNat % 128 : Nat) : Int) * qF (f + 1)) (by omega) (by omega)) (congrArg (fun z : Int => [AV.int .i64 z]) hw) rfl ?_
          | refine Call0 (c_spec_l1NumB9 n hT.2.2.2.1 (by omega)) rfl rfl ?_
          | (rcases hx : b[a]? with _ | x <;> first | refine CallB (c_spec_one1_no b a hT.2.2.1 hb hx) rfl rfl rfl rfl rfl rfl ?_ | (have hqb := qF_bnd (f + 1); have hw := num_wS (x := x) (n := n) (f := f + 1) hT.2.2.2.1 (by omega); have hrq := rq_bnd (x := x) (f := f + 1); have hlt := (List.getElem?_eq_some_iff.1 hx).1; refine CallB (c_spec_one1 b a x hb hx) rfl rfl rfl rfl rfl rfl ?_)))
      | (show Go.Ab.CallD _ _ _ _ _ _ _; first
          | refine CallD0 (c_spec_l1NumB9 (n + ((x.toNat % 128 : Nat) : Int) * qF (f + 1)) (by omega) (by omega)) (congrArg (fun z : Int => [AV.int .i64 z]) hw) rfl rfl ?_
          | refine CallD0 (c_spec_l1NumB9 (n + ((x.toNat % 128 : Nat) : Int) * qF (f + 1)) (by omega) (by omega)) (congrArg (fun z : Int => [AV.int .i64 z]) hw) rfl ?_
          | refine CallD0 (c_spec_l1NumB9 n hT.2.2.2.1 (by omega)) rfl rfl rfl ?_)
      | refine ix_map_at hx ?_
      | refine ix_map_at hy ?_
      | refine sl_pre (by omega) (fun _ => rfl) ?_
      | refine sl_suf (by omega) (fun _ => rfl) ?_
      | (refine ix_map2 hx (by omega) (by (try simp only [List.length_take]); omega) (fun y hy => ?_); try simp only [Int.toNat_natCast] at hy)
      | (refine ix_map (by omega) (by (try simp only [List.length_take]); omega) (fun x hx => ?_); try simp only [Int.toNat_natCast] at hx)
      | refine side_and (side_of (by first | (and_intros <;> first | exact Nat.le_of_ble_eq_true rfl | rfl | omega | (simp only [lensB, lensC, List.length_replicate, midL_len, mkL_length]; omega) | exact bytes_ok (Nat.le_of_ble_eq_true rfl) (by omega) (by simp only [lensB, lensC, List.length_replicate, midL_len, mkL_length]; omega) | exact bytes_okN (Nat.le_of_ble_eq_true rfl) (by simp only [lensB, lensC, List.length_replicate, midL_len, mkL_length]; omega)) | fail)) ?_
      | refine nilB_intro (fun h => ?_) ?_
      | refine side_and (side_of (show Go.Ab.structOk _ _ = true by kernel_rfl)) ?_
      | refine side_and (side_of (map_len (fun _ => rfl))) ?_
      | refine side_and (side_of (map_one (fun _ => rfl) _)) ?_
      | refine side_and ?_ ?_
      | refine LoadK_of rfl rfl ?_
      | refine LoadD_cel rfl rfl rfl rfl ?_
      | refine LoadD_of rfl ?_
      | refine StoreD_of rfl rfl rfl ?_
      | refine AppD_of rfl (by and_intros <;> first | rfl | decide) (by simp only [lensC]; first | (refine ⟨by omega, ?_⟩; refine Nat.le_trans (Nat.mul_le_mul_left _ (show _ ≤ 512 by decide)) ?_; omega) | fail) ?_
      | refine AppN_of rfl rfl (by and_intros <;> rfl) (by simp only [lensC]; first | (refine ⟨by omega, ?_⟩; refine Nat.le_trans (Nat.mul_le_mul_left _ (show _ ≤ 512 by decide)) ?_; omega) | fail) ?_
      | (show False; omega)
    all_goals
      conv => whnf
      first
      | (rw [show numFS b a0 false = (0, a, true) from hT.1.symm.trans (numM_none' (by omega) hx)]; exact OutB_plain rfl rfl rfl rfl rfl rfl rfl)
      | (rw [show numFS b a0 false = (0, a + 1, true) from hT.1.symm.trans ((numM_fin' (by omega) hx (by omega)).trans (by first | exact finS_big (by omega) | exact finS_ne (by assumption)))]; exact OutB_plain rfl rfl rfl rfl rfl rfl rfl)
      | (rw [show numFS b a0 false = (n + ((x.toNat % 128 : Nat) : Int) * qF (f + 1), a + 1, false) from hT.1.symm.trans ((numM_fin' (by omega) hx (by omega)).trans (finS_yes (by omega) (by assumption)))]; exact OutB_plain rfl rfl rfl rfl rfl (congrArg (AV.int .i64) hw) rfl)
      | (rw [show numFS b a0 false = (0, a, true) from hT.1.symm.trans ((numM_zero (by omega)).trans (by first | exact finS_big (by omega) | exact finS_ne (by assumption)))]; exact OutB_plain rfl rfl rfl rfl rfl rfl rfl)
      | (rw [show numFS b a0 false = (n, a, false) from hT.1.symm.trans ((numM_zero (by omega)).trans (finS_yes (by omega) (by assumption)))]; exact OutB_plain rfl rfl rfl rfl rfl rfl rfl)
  theorem textFS_no {b : List UInt8} {a : Nat} {f : Bool} (h : (numFS b a f).2.2 = true ∨ (numFS b a f).1 > 60 ∨ ((numFS b a f).2.1 : Int) + (numFS b a f).1 > b.length) : textFS b a f = ([], (numFS b a f).2.1, true) := by unfold textFS; rw [if_pos h]
theorem textFS_yes {b : List UInt8} {a : Nat} {f : Bool} (h : (numFS b a f).2.2 = false) (h1 : ¬ (numFS b a f).1 > 60) (h2 : ¬ ((numFS b a f).2.1 : Int) + (numFS b a f).1 > b.length) : textFS b a f = ((b.take ((numFS b a f).2.1 + (numFS b a f).1.toNat)).drop (numFS b a f).2.1, (numFS b a f).2.1 + (numFS b a f).1.toNat, false) := by
  unfold textFS
  rw [if_neg (fun e => e.elim (fun e => by rw [h] at e; cases e) (fun e => e.elim h1 h2))]
theorem c_spec_text (b : List UInt8) (a : Nat) (f : Bool) (ha : a ≤ b.length) (hb : b.length ≤ 1073741824) : BC Tryz.prog 178 196 [.str b, .int .i64 (a : Int), .bool f] [] (.str (textFS b a f).1) [] [.str b, .int .i64 ((textFS b a f).2.1 : Int), .bool (textFS b a f).2.2] := by
  have ok := numFS_ok (b := b) (f := f) ha
  have nn := ok.nn
  have le := ok.le
  have hi := ok.hi
  have hw2 := i64_wrap (e := ((numFS b a f).2.1 : Int) + (numFS b a f).1) (by omega) (by omega)
  have hw3 : IntKind.i64.wrap (IntKind.i64.wrap (((numFS b a f).2.1 : Int) + (numFS b a f).1) - (numFS b a f).1) = ((numFS b a f).2.1 : Int) := by rw [hw2, i64_wrap (by omega) (by omega)]; omega
  refine bc_of Tryz.func178 rfl (by kernel_rfl) 3 54 [.tmp 2] rfl rfl rfl (by decide) rfl ?_
  repeat' (conv => whnf); first
    | refine nameB_true ?_
    | refine nameB_false ?_
    | refine nameB_yes (by assumption) ?_
    | refine nameB_no (by assumption) ?_
    | refine nameB_dyes (by assumption) ?_
    | refine nameB_dno (by assumption) ?_
    | (refine nameB_dec (fun h => ?_) (fun h => ?_) <;> try simp only [lensB, midL_len, mkL_length, Int.toNat_natCast, fact_byte] at h)
    | (refine nameB_cases (fun h => ?_) (fun h => ?_) <;> try simp only [bne_iff_ne, ne_eq, bne_eq_false_iff_eq, beq_iff_eq, beq_eq_false_iff_ne, Bool.not_eq_true', Bool.not_eq_false', Bool.or_eq_true, Bool.or_eq_false_iff, lensB, midL_len, mkL_length, Int.toNat_natCast, fact_byte] at h)
    | refine splitB_true ?_
    | refine splitB_false ?_
    | (refine splitB_intro (fun h => ?_) (fun h => ?_) <;> subst h)
    | refine draw_text (by kernel_rfl) (by kernel_rfl) (by kernel_rfl) ?_
    | refine both_intro ?_ ?_
    | refine eitherB_l ?_
    | exact True.intro
    | (show Go.Ab.CallA _ _ _ _ _ _ _; refine CallB (c_spec_num b a f ha hb) rfl rfl rfl rfl rfl rfl ?_)
    | refine ix_map_at hx ?_
    | refine ix_map_at hy ?_
    | refine sl_pre (by omega) (fun _ => rfl) ?_
    | refine sl_suf (by omega) (fun _ => rfl) ?_
    | (refine ix_map2 hx (by omega) (by (try simp only [List.length_take]); omega) (fun y hy => ?_); try simp only [Int.toNat_natCast] at hy)
    | (refine ix_map (by omega) (by (try simp only [List.length_take]); omega) (fun x hx => ?_); try simp only [Int.toNat_natCast] at hx)
    | refine side_and (side_of (by first | (and_intros <;> first | exact Nat.le_of_ble_eq_true rfl | rfl | omega | (simp only [lensB, lensC, List.length_replicate, midL_len, mkL_length]; omega) | exact bytes_ok (Nat.le_of_ble_eq_true rfl) (by omega) (by simp only [lensB, lensC, List.length_replicate, midL_len, mkL_length]; omega) | exact bytes_okN (Nat.le_of_ble_eq_true rfl) (by simp only [lensB, lensC, List.length_replicate, midL_len, mkL_length]; omega)) | fail)) ?_
    | refine nilB_intro (fun h => ?_) ?_
    | refine side_and (side_of (show Go.Ab.structOk _ _ = true by kernel_rfl)) ?_
    | refine side_and (side_of (map_len (fun _ => rfl))) ?_
    | refine side_and (side_of (map_one (fun _ => rfl) _)) ?_
    | refine side_and ?_ ?_
    | refine LoadK_of rfl rfl ?_
    | refine LoadD_cel rfl rfl rfl rfl ?_
    | refine LoadD_of rfl ?_
    | refine StoreD_of rfl rfl rfl ?_
    | refine AppD_of rfl (by and_intros <;> first | rfl | decide) (by simp only [lensC]; first | (refine ⟨by omega, ?_⟩; refine Nat.le_trans (Nat.mul_le_mul_left _ (show _ ≤ 512 by decide)) ?_; omega) | fail) ?_
    | refine AppN_of rfl rfl (by and_intros <;> rfl) (by simp only [lensC]; first | (refine ⟨by omega, ?_⟩; refine Nat.le_trans (Nat.mul_le_mul_left _ (show _ ≤ 512 by decide)) ?_; omega) | fail) ?_
    | (show False; omega)
  all_goals
    conv => whnf
    first
    | (rw [textFS_no (b := b) (a := a) (f := f) (by first | (left; assumption) | (right; left; assumption) | (right; right; omega))]; exact OutB_plain rfl rfl rfl rfl rfl rfl rfl)
    | (rw [textFS_yes (b := b) (a := a) (f := f) (by assumption) (by assumption) (by omega)]
       refine OutB_plain rfl rfl rfl rfl rfl ?_ ?_
       · refine congrArg AV.str ?_
         rw [hw3, hw2, show (((numFS b a f).2.1 : Int) + (numFS b a f).1).toNat = (numFS b a f).2.1 + (numFS b a f).1.toNat by omega, Int.toNat_natCast]
       · refine (congrArg (fun z : Int => [AV.str b, AV.int .i64 z, AV.bool _]) hw2).trans ?_
         rw [show ((numFS b a f).2.1 : Int) + (numFS b a f).1 = (((numFS b a f).2.1 + (numFS b a f).1.toNat : Nat) : Int) by omega]
         simp only [*])
theorem textFS_go {b : List UInt8} {a : Nat} (ha : a ≤ b.length) (h : (textFS b a false).2.2 = false) : a < (textFS b a false).2.1 := by
  have r := textF_rel (b := b) (a := a) (f := false) ha
  have h1 : (textFI b a false).2.2 = false := r.1.trans h
  rw [← r.2 h]
  exact textFI_go ha h1
end Go.Proofs.YtfpkfnfgloonhaaGreat
