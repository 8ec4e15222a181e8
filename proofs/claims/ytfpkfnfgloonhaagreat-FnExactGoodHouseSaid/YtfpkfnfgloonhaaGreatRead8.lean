/-
  What the reference's ReadRec gives.
  No condition.
-/
import Derived.Test.YtfpkfnfgloonhaaGreatRead7
namespace Go.Proofs.YtfpkfnfgloonhaaGreat
open Go.Ab
set_option linter.unusedSimpArgs false
set_option maxRecDepth 20000
set_option maxHeartbeats 4000000
set_option linter.unusedVariables false

theorem rdWS_go {b : List UInt8} {a : Nat} (ha : a ≤ b.length) (h : (rdWS b a false).2.2 = false) : a < (rdWS b a false).2.1 := by
  have r := rdW_rel (b := b) (a := a) (f := false) ha
  rw [← r.2 h]
  exact rdW_go ha (r.1.trans h)
theorem rB7_nat {s : List UInt8} : (rB7 s).1 = ((rB7 s).1.toNat : Int) := (Int.toNat_of_nonneg (numFS_ok (b := s) (f := (rB6 s).2.2) b6').nn).symm
theorem recS_small {s : List UInt8} (hs : s.length ≤ 5997) (h : (recS s).2 = false) : SmallR (recS s).1 := by
  rw [← (rec_rel (s := s)).2 h]
  exact recI_small hs
theorem c_spec_ReadRec (b : List UInt8) (hb : b.length ≤ 1073741824) : PC Tryz.prog false 144 [.str b] (.tup [.agg [.int .i64 (outR b).1.Kind, .int .i64 (outR b).1.Txn, .int .i64 (outR b).1.Time, .int .i64 (outR b).1.Lead, .own 0, .own 1, .bool (outR b).1.Yes], .bool (outR b).2]) [⟨false, 9, 1, (outR b).1.Reads.map strC⟩, ⟨false, 154, 3, (outR b).1.Writes.map WriteT.cells⟩] := by
  cases hs2 : (sealF b).2 with
  | false =>
    have e := outR_no (b := b) (by rw [hs2]; rfl)
    have hc := c_spec_OpenSeal b hb
    rw [hs2] at hc
    rw [e]
    refine pc_at Tryz.func144 rfl (by kernel_rfl) 83 [.cell 2 47, .tmp 3] rfl rfl ?_
    repeat' (conv => whnf); first
      | refine nameB_true ?_
      | refine nameB_false ?_
      | refine nameB_yes (by assumption) ?_
      | refine nameB_no (by assumption) ?_
      | refine nameB_dyes (by assumption) ?_
      | refine nameB_dno (by assumption) ?_
      | (refine nameB_dec (fun h => ?_) (fun h => ?_) <;> try simp only [lensB, midL_len, mkL_length, Int.toNat_natCast, fact_byte] at h)
      | (refine nameB_cases (fun h => ?_) (fun h => ?_) <;> try simp only [bne_iff_ne, ne_eq, bne_eq_false_iff_eq, beq_iff_eq, beq_eq_false_iff_ne, Bool.not_eq_true', Bool.not_eq_false', Bool.or_eq_true, Bool.or_eq_false_iff, lensB, midL_len, mkL_length, Int.toNat_natCast, fact_byte] at h)
      | refine splitB_true ?_
      | refine splitB_false ?_
      | (refine splitB_intro (fun h => ?_) (fun h => ?_) <;> subst h)
      | refine draw_text (by kernel_rfl) (by kernel_rfl) (by kernel_rfl) ?_
      | refine both_intro ?_ ?_
      | refine eitherB_l ?_
      | exact True.intro
      | (show Go.Ab.CallA _ _ _ _ _ _ _; refine Call0 (hc) rfl rfl ?_)
      | refine ix_map_at hx ?_
      | refine ix_map_at hy ?_
      | refine sl_pre (by omega) (fun _ => rfl) ?_
      | refine sl_suf (by omega) (fun _ => rfl) ?_
      | (refine ix_map2 hx (by omega) (by (try simp only [List.length_take]); omega) (fun y hy => ?_); try simp only [Int.toNat_natCast] at hy)
      | (refine ix_map (by omega) (by (try simp only [List.length_take]); omega) (fun x hx => ?_); try simp only [Int.toNat_natCast] at hx)
      | refine side_and (side_of (by first | (and_intros <;> first | exact Nat.le_of_ble_eq_true rfl | rfl | omega | (simp only [lensB, lensC, List.length_replicate, midL_len, mkL_length]; omega) | exact bytes_ok (Nat.le_of_ble_eq_true rfl) (by omega) (by simp only [lensB, lensC, List.length_replicate, midL_len, mkL_length]; omega) | exact bytes_okN (Nat.le_of_ble_eq_true rfl) (by simp only [lensB, lensC, List.length_replicate, midL_len, mkL_length]; omega)) | fail)) ?_
      | refine nilB_intro (fun h => ?_) ?_
      | refine side_and (side_of (show Go.Ab.structOk _ _ = true by kernel_rfl)) ?_
      | refine side_and (side_of (map_len (fun _ => rfl))) ?_
      | refine side_and (side_of (map_one (fun _ => rfl) _)) ?_
      | refine side_and ?_ ?_
      | refine LoadK_of rfl rfl ?_
      | refine LoadD_cel rfl rfl rfl rfl ?_
      | refine LoadD_of rfl ?_
      | refine StoreD_of rfl rfl rfl ?_
      | refine AppD_of rfl (by and_intros <;> first | rfl | decide) (by simp only [lensC]; first | (refine ⟨by omega, ?_⟩; refine Nat.le_trans (Nat.mul_le_mul_left _ (show _ ≤ 512 by decide)) ?_; omega) | fail) ?_
      | refine AppN_of rfl rfl (by and_intros <;> rfl) (by simp only [lensC]; first | (refine ⟨by omega, ?_⟩; refine Nat.le_trans (Nat.mul_le_mul_left _ (show _ ≤ 512 by decide)) ?_; omega) | fail) ?_
      | (show False; omega)
    all_goals
      conv => whnf
      exact OutA_nilB 0 1 9 1 4 rfl rfl rfl (by decide) (OutA_nilB 0 2 154 3 5 rfl rfl rfl (by decide) (OutA_ids rfl rfl rfl ⟨⟨_, _, _, rfl, rfl⟩, ⟨_, _, _, rfl, rfl⟩, trivial⟩ rfl (.inr (by intro o ho; simp only [List.mem_cons, List.not_mem_nil, or_false] at ho; rcases ho with rfl | rfl <;> rfl))))
  | true =>
    have hc := c_spec_OpenSeal b hb
    rw [hs2] at hc
    obtain ⟨hsl, hbl⟩ := sealF_len hs2
    have hsm := fun h => recS_small hsl h
    have hor : outR b = match goodR b (recS (sealF b).1) with | true => ((recS (sealF b).1).1, true) | false => (zeroR, false) := by
      unfold outR
      rw [hs2, Bool.true_and]
      cases goodR b (recS (sealF b).1) <;> rfl
    rw [hor]
    generalize (sealF b).1 = s at *
    refine pc_at Tryz.func144 rfl (by kernel_rfl) 83 [.cell 2 47, .tmp 3] rfl rfl ?_
    repeat' (conv => whnf); first
      | refine nameB_self (b := (rB5 s).1 == 1) ?_
      | refine nameB_self (b := (oneF s (textFS s c g).2.1 (textFS s c g).2.2).1 == 1) ?_
      | refine nameB_self (b := decide ((rB5 s).1 = 1)) ?_
      | refine nameB_self (b := decide ((oneF s (textFS s c g).2.1 (textFS s c g).2.2).1 = 1)) ?_
      | refine side_and (side_of (one_lenC rfl rfl)) ?_
      | refine side_and (side_of (by first | (and_intros <;> first | exact Nat.le_of_ble_eq_true rfl | rfl | (intro e; exact absurd (AV.own.inj e) (by decide)) | (intro e; exact AV.noConfusion e)) | fail)) ?_
      | refine side_and (side_of (app_boundC (L := out.map WriteT.cells) rfl (by (try simp only [List.length_map, List.length_append, List.length_take, List.length_set, List.length_drop]); omega) (Nat.le_of_ble_eq_true rfl))) ?_
      | refine nameB_true ?_
      | refine nameB_false ?_
      | refine nameB_yes (by assumption) ?_
      | refine nameB_no (by assumption) ?_
      | refine nameB_dyes (by assumption) ?_
      | refine nameB_dno (by assumption) ?_
      | (refine nameB_dec (fun h => ?_) (fun h => ?_) <;> try simp only [lensB, midL_len, mkL_length, Int.toNat_natCast, fact_byte] at h)
      | (refine nameB_cases (fun h => ?_) (fun h => ?_) <;> try simp only [bne_iff_ne, ne_eq, bne_eq_false_iff_eq, beq_iff_eq, beq_eq_false_iff_ne, Bool.not_eq_true', Bool.not_eq_false', Bool.or_eq_true, Bool.or_eq_false_iff, lensB, midL_len, mkL_length, Int.toNat_natCast, fact_byte] at h)
      | refine splitB_true ?_
      | refine splitB_false ?_
      | (refine splitB_intro (fun h => ?_) (fun h => ?_) <;> subst h)
      | refine draw_text (by kernel_rfl) (by kernel_rfl) (by kernel_rfl) ?_
      | refine both_intro ?_ ?_
      | refine eitherB_l ?_
      | exact True.intro
      | (show Go.Ab.Loop _ _ _; (refine Loop_nilB 20624 1 154 3 5 rfl rfl rfl (by decide) ?_; refine Loop_at [0, 2, 6, 7] [0, 28688] (Nat × List WriteT × Nat × Bool) (fun j => match j with | (k, out, c, g) => manyG (fun a => rdWS s a false) k out c g = rB8 s ∧ k ≤ 1000000000 ∧ c ≤ s.length ∧ out.length ≤ c + 1 ∧ (g = false → out.length ≤ c)) (fun j => match j with | (k, out, c, g) => [(8, .int .i64 (k))]) (fun j => match j with | (k, out, c, g) => [(16416, ⟨true, 196, 3, [[.str s, .int .i64 (c : Int), .bool g]]⟩), (20624, ⟨true, 47, 7, [[.int .i64 (rB1 s).1, .int .i64 (rB2 s).1, .int .i64 (rB3 s).1, .int .i64 (rB4 s).1, .own 28688, .own 1, .bool ((rB5 s).1 == 1)]]⟩), (1, ⟨false, 154, 3, out.map WriteT.cells⟩)]) (fun j => match j with | (k, out, c, g) => k) ((rB7 s).1.toNat, [], (rB7 s).2.1, (rB7 s).2.2) ⟨by first | first | rfl | exact congrArg (AV.int .i64) rB7_nat | exact congrArg (AV.int .i64) ((i64_wrap (by omega) (by omega)).trans (by omega)) | rfl | fail, trivial⟩ ⟨by first | rfl | first | rfl | exact congrArg (fun e => some (AObj.mk _ _ _ e)) (app_w rfl) | fail | fail, by first | rfl | first | rfl | exact congrArg (fun e => some (AObj.mk _ _ _ e)) (app_w rfl) | fail | fail, by first | rfl | first | rfl | exact congrArg (fun e => some (AObj.mk _ _ _ e)) (app_w rfl) | fail | fail, trivial⟩ (by (try dsimp only); first | (exact ⟨rfl, by have := (numFS_ok (b := s) (f := (rB6 s).2.2) b6').le; show (numFS _ _ _).1.toNat ≤ _; omega, b7', Nat.zero_le _, fun _ => Nat.zero_le _⟩) | fail) ?_; (conv => whnf); refine side_and (side_of (by first | exact fun ⟨k, out, c, g⟩ => rfl | exact fun ⟨k, out, c, g⟩ => by simp [headOk, closedE, closedO, closedL, AV.closed, hcap.closed, hasId, AObj.box, BK.ofB])) ?_; rintro ⟨k, out, c, g⟩ hT; try dsimp only at hT))
      | (show Go.Ab.Again _ _ _ _ _ _ _ _ _ _ _; refine Again_of (k - 1, out ++ [(rdWS s c g).1], (rdWS s c g).2.1, (rdWS s c g).2.2) ⟨by first | first | rfl | exact congrArg (AV.int .i64) rB7_nat | exact congrArg (AV.int .i64) ((i64_wrap (by omega) (by omega)).trans (by omega)) | rfl | fail, trivial⟩ ⟨by first | rfl | first | rfl | exact congrArg (fun e => some (AObj.mk _ _ _ e)) (app_w rfl) | fail | fail, by first | rfl | first | rfl | exact congrArg (fun e => some (AObj.mk _ _ _ e)) (app_w rfl) | fail | fail, by first | rfl | first | rfl | exact congrArg (fun e => some (AObj.mk _ _ _ e)) (app_w rfl) | fail | fail, trivial⟩ (by first | (and_intros <;> first | rfl | trivial) | fail) (by first | (and_intros <;> first | rfl | trivial) | fail) rfl rfl rfl (by (try dsimp only); first | ((have hg' : g = false := (by assumption); subst hg'; have ho := rdWS_ok (b := s) (f := false) hT.2.2.1; have hl := hT.2.2.2.2 rfl; have lo := ho.lo; exact ⟨manyG_go hT.1 (by omega), by omega, ho.hi, by rw [List.length_append]; show out.length + 1 ≤ _; omega, fun e => by have := rdWS_go hT.2.2.1 e; rw [List.length_append]; show out.length + 1 ≤ _; omega⟩)) | fail) (show _ < _ by (try dsimp only); omega))
      | (show Go.Ab.CallA _ _ _ _ _ _ _; first
          | refine Call0 (hc) rfl rfl ?_
          | refine CallB (c_spec_num s 0 false (Nat.zero_le _) (by omega)) rfl rfl rfl rfl rfl rfl ?_
          | refine CallB (c_spec_num s (rB1 s).2.1 (rB1 s).2.2 b1' (by omega)) rfl rfl rfl rfl rfl rfl ?_
          | refine CallB (c_spec_num s (rB2 s).2.1 (rB2 s).2.2 b2' (by omega)) rfl rfl rfl rfl rfl rfl ?_
          | refine CallB (c_spec_num s (rB3 s).2.1 (rB3 s).2.2 b3' (by omega)) rfl rfl rfl rfl rfl rfl ?_
          | refine CallB (c_spec_one s (rB4 s).2.1 (rB4 s).2.2 b4' (by omega)) rfl rfl rfl rfl rfl rfl ?_
          | refine CallB (c_spec_texts s (rB5 s).2.1 (rB5 s).2.2 b5' (by omega)) rfl rfl rfl rfl rfl rfl ?_
          | refine CallB (c_spec_num s (rB6 s).2.1 (rB6 s).2.2 b6' (by omega)) rfl rfl rfl rfl rfl rfl ?_
          | refine CallB (c_spec_text s c g hT.2.2.1 (by omega)) rfl rfl rfl rfl rfl rfl ?_
          | refine CallB (c_spec_one s (textFS s c g).2.1 (textFS s c g).2.2 (textFS_ok hT.2.2.1).hi (by omega)) rfl rfl rfl rfl rfl rfl ?_
          | refine CallB (c_spec_text s (oneF s (textFS s c g).2.1 (textFS s c g).2.2).2.1 (oneF s (textFS s c g).2.1 (textFS s c g).2.2).2.2 (oneF_ok (textFS_ok hT.2.2.1).hi).hi (by omega)) rfl rfl rfl rfl rfl rfl ?_
          | (have e8 := manyG_end hT.1 (by first | (left; omega) | (right; assumption)); have eR : recS s = ((⟨(rB1 s).1, (rB2 s).1, (rB3 s).1, (rB4 s).1, (rB6 s).1, out, (rB5 s).1 == 1⟩ : RecT), g) := (by unfold recS; rw [← e8]); have hsm2 : SmallR (⟨(rB1 s).1, (rB2 s).1, (rB3 s).1, (rB4 s).1, (rB6 s).1, out, (rB5 s).1 == 1⟩ : RecT) := (by have h9 := hsm (by rw [eR]; assumption); rw [eR] at h9; exact h9); refine Call0 (c_spec_l4Good (⟨(rB1 s).1, (rB2 s).1, (rB3 s).1, (rB4 s).1, (rB6 s).1, out, (rB5 s).1 == 1⟩ : RecT) hsm2.ok (rec_take hsm2).1 (rec_take hsm2).2) rfl rfl ?_)
          | (have e8 := manyG_end hT.1 (by first | (left; omega) | (right; assumption)); have eR : recS s = ((⟨(rB1 s).1, (rB2 s).1, (rB3 s).1, (rB4 s).1, (rB6 s).1, out, (rB5 s).1 == 1⟩ : RecT), g) := (by unfold recS; rw [← e8]); have hsm2 : SmallR (⟨(rB1 s).1, (rB2 s).1, (rB3 s).1, (rB4 s).1, (rB6 s).1, out, (rB5 s).1 == 1⟩ : RecT) := (by have h9 := hsm (by rw [eR]; assumption); rw [eR] at h9; exact h9); refine Call0 (c_spec_l4Bytes (⟨(rB1 s).1, (rB2 s).1, (rB3 s).1, (rB4 s).1, (rB6 s).1, out, (rB5 s).1 == 1⟩ : RecT) (by assumption) hsm2.w) rfl rfl ?_))
      | refine ix_map_at hx ?_
      | refine ix_map_at hy ?_
      | refine sl_pre (by omega) (fun _ => rfl) ?_
      | refine sl_suf (by omega) (fun _ => rfl) ?_
      | (refine ix_map2 hx (by omega) (by (try simp only [List.length_take]); omega) (fun y hy => ?_); try simp only [Int.toNat_natCast] at hy)
      | (refine ix_map (by omega) (by (try simp only [List.length_take]); omega) (fun x hx => ?_); try simp only [Int.toNat_natCast] at hx)
      | refine side_and (side_of (by first | (and_intros <;> first | exact Nat.le_of_ble_eq_true rfl | rfl | omega | (simp only [lensB, lensC, List.length_replicate, midL_len, mkL_length]; omega) | exact bytes_ok (Nat.le_of_ble_eq_true rfl) (by omega) (by simp only [lensB, lensC, List.length_replicate, midL_len, mkL_length]; omega) | exact bytes_okN (Nat.le_of_ble_eq_true rfl) (by simp only [lensB, lensC, List.length_replicate, midL_len, mkL_length]; omega)) | fail)) ?_
      | refine nilB_intro (fun h => ?_) ?_
      | refine side_and (side_of (show Go.Ab.structOk _ _ = true by kernel_rfl)) ?_
      | refine side_and (side_of (map_len (fun _ => rfl))) ?_
      | refine side_and (side_of (map_one (fun _ => rfl) _)) ?_
      | refine side_and ?_ ?_
      | refine LoadK_of rfl rfl ?_
      | refine LoadD_cel rfl rfl rfl rfl ?_
      | refine LoadD_of rfl ?_
      | refine StoreD_of rfl rfl rfl ?_
      | refine AppD_of rfl (by and_intros <;> first | rfl | decide) (by simp only [lensC]; first | (refine ⟨by omega, ?_⟩; refine Nat.le_trans (Nat.mul_le_mul_left _ (show _ ≤ 512 by decide)) ?_; omega) | fail) ?_
      | refine AppN_of rfl rfl (by and_intros <;> rfl) (by simp only [lensC]; first | (refine ⟨by omega, ?_⟩; refine Nat.le_trans (Nat.mul_le_mul_left _ (show _ ≤ 512 by decide)) ?_; omega) | fail) ?_
      | (show False; omega)
    all_goals
      conv => whnf
      have e8 := manyG_end hT.1 (by first | (left; omega) | (right; assumption)); have eR : recS s = ((⟨(rB1 s).1, (rB2 s).1, (rB3 s).1, (rB4 s).1, (rB6 s).1, out, (rB5 s).1 == 1⟩ : RecT), g) := (by unfold recS; rw [← e8])
      first
      | (have eG : goodR b (recS s) = false := (by rw [eR]; unfold goodR; first | (simp [*]; done) | (simp_all; done))
         rw [eG]
         exact OutA_nilB 0 2 9 1 4 rfl rfl rfl (by decide) (OutA_nilB 0 3 154 3 5 rfl rfl rfl (by decide) (OutA_ids rfl rfl rfl ⟨⟨_, _, _, rfl, rfl⟩, ⟨_, _, _, rfl, rfl⟩, trivial⟩ rfl (.inr (by intro o ho; simp only [List.mem_cons, List.not_mem_nil, or_false] at ho; rcases ho with rfl | rfl <;> rfl)))))
      | (have eG : goodR b (recS s) = true := (by rw [eR]; unfold goodR; first | (simp [*]; done) | (simp_all; done))
         rw [eG, eR]
         exact OutA_ids rfl rfl rfl ⟨⟨_, _, _, rfl, rfl⟩, ⟨_, _, _, rfl, rfl⟩, trivial⟩ rfl (.inr (by intro o ho; simp only [List.mem_cons, List.not_mem_nil, or_false] at ho; rcases ho with rfl | rfl <;> exact flat_map (fun _ => rfl) _)))
end Go.Proofs.YtfpkfnfgloonhaaGreat
