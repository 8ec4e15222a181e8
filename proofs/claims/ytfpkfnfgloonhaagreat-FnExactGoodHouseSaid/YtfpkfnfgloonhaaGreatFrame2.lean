/-
  What the readers of frames give.
  No condition.
-/
import Derived.Test.YtfpkfnfgloonhaaGreatFrame1
namespace Go.Proofs.YtfpkfnfgloonhaaGreat
open Go.Ab
set_option linter.unusedSimpArgs false
set_option maxRecDepth 20000
set_option maxHeartbeats 4000000
set_option linter.unusedVariables false

def frQ (b : List UInt8) (a : Nat) : Nat := match frOk b a with | true => frE b a | false => 0
def frT (b : List UInt8) (a : Nat) : Int := match frOk b a with | true => (frE b a : Int) | false => -1
theorem fr_no {b : List UInt8} {a : Nat} (h : frOk b a = false) : frR b a = [] ∧ frQ b a = 0 ∧ frT b a = -1 := by unfold frR frQ frT; rw [h]; exact ⟨rfl, rfl, rfl⟩
theorem fr_yes {b : List UInt8} {a : Nat} (h : frOk b a = true) : frR b a = frS b a ∧ frQ b a = frE b a ∧ frT b a = (frE b a : Int) := by unfold frR frQ frT; rw [h]; exact ⟨rfl, rfl, rfl⟩
theorem fY_len {b : List UInt8} {a : Nat} (ha : a ≤ b.length) : (fY b a).1.length ≤ 1000000000 := by
  have h1 := takeF_len (b := b) (a := (fX b a).2.1) (f := (fX b a).2.2) (fX_ok ha).nn
  have h2 := (fX_ok ha).le
  have h3 : ((fY b a).1.length : Int) ≤ (fX b a).1 := h1
  omega
theorem fr_side {b : List UInt8} {a : Nat} (ha : a ≤ b.length) : (takeF b (fX b a).2.1 (fX b a).2.2 (fX b a).1).1.length + (takeF b (fY b a).2.1 (fY b a).2.2 3).1.length ≤ 4611686018427387904 := by
  have h1 : (takeF b (fX b a).2.1 (fX b a).2.2 (fX b a).1).1.length ≤ 1000000000 := fY_len ha
  have h2 := takeF_len (b := b) (a := (fY b a).2.1) (f := (fY b a).2.2) (n := 3) (by omega)
  omega
theorem fr_bad {b : List UInt8} {a : Nat} (ha : a ≤ b.length) (h : (numFI b a false).1 > 700 ∨ (fZ b a).2.2 = true ∨ ¬ sealB (fY b a).1 = (takeF b (fX b a).2.1 (fX b a).2.2 (fX b a).1).1 ++ (takeF b (fY b a).2.1 (fY b a).2.2 3).1) : frOk b a = false := by
  rw [← (fr_impl ha).1]
  rcases h with h | h | h
  · replace h : (fX b a).1 > 700 := h
    rw [decide_eq_false (show ¬ (fX b a).1 ≤ 700 by omega)]
    simp
  · rw [h]
    simp
  · replace h : ¬ sealB (fY b a).1 = (fY b a).1 ++ (fZ b a).1 := h
    rw [decide_eq_false h]
    simp
theorem fr_good {b : List UInt8} {a : Nat} (ha : a ≤ b.length) (h1 : ¬ (numFI b a false).1 > 700) (h2 : (fZ b a).2.2 = false) (h3 : sealB (fY b a).1 = (takeF b (fX b a).2.1 (fX b a).2.2 (fX b a).1).1 ++ (takeF b (fY b a).2.1 (fY b a).2.2 3).1) : frOk b a = true := by
  rw [← (fr_impl ha).1]
  replace h1 : ¬ (fX b a).1 > 700 := h1
  replace h3 : sealB (fY b a).1 = (fY b a).1 ++ (fZ b a).1 := h3
  rw [decide_eq_true (show (fX b a).1 ≤ 700 by omega), h2, decide_eq_true h3]
  rfl
theorem fr_out {b : List UInt8} {a : Nat} (ha : a ≤ b.length) (e : frOk b a = true) : AV.tup [.str (takeF b (fX b a).2.1 (fX b a).2.2 (fX b a).1).1, .int .i64 ((takeF b (fY b a).2.1 (fY b a).2.2 3).2.1 : Nat), .bool true] = .tup [.str (frR b a), .int .i64 (frQ b a : Nat), .bool (frOk b a)] := by
  obtain ⟨q1, q2⟩ := (fr_impl ha).2 e
  have q := fr_yes e
  rw [q.1, q.2.1, e, ← q1, ← q2]
  rfl
theorem fs_bad {b : List UInt8} {a : Nat} (ha : a ≤ b.length) (h : (numFS b a false).2.2 = true ∨ (numFS b a false).1 > 700 ∨ (numFS b a false).1 + 3 > (b.length : Int) - ((numFS b a false).2.1 : Int)) : frOk b a = false := by
  unfold frOk frN frM
  rcases h with h | h | h
  · rw [h]; simp
  · rw [decide_eq_false (show ¬ (numFS b a false).1 ≤ 700 by omega)]; simp
  · rw [decide_eq_false (show ¬ (numFS b a false).1 + 3 ≤ (b.length : Int) - ((numFS b a false).2.1 : Int) by omega)]; simp
theorem fs_seal {b : List UInt8} {a : Nat} (ha : a ≤ b.length) (h1 : (numFS b a false).2.2 = false) (h2 : ¬ (numFS b a false).1 > 700) (h3 : ¬ (numFS b a false).1 + 3 > (b.length : Int) - ((numFS b a false).2.1 : Int)) {L : List UInt8} (hL : L = (b.take (frE b a)).drop a) : (frOk b a = true ↔ numB ((frS b a).length : Nat) ++ sealB (frS b a) = L) := by
  rw [hL, fr_spec ha h1 (by show (numFS b a false).1 + 3 ≤ (b.length : Int) - ((numFS b a false).2.1 : Int); omega)]
  unfold frOk
  rw [h1, decide_eq_true (show frN b a ≤ 700 by show (numFS b a false).1 ≤ 700; omega), decide_eq_true (show frN b a + 3 ≤ (b.length : Int) - frM b a by show (numFS b a false).1 + 3 ≤ (b.length : Int) - ((numFS b a false).2.1 : Int); omega)]
  simp
theorem iff_no {b : Bool} {p : Prop} (h : b = true ↔ p) (hn : ¬ p) : b = false := by
  cases b with
  | false => rfl
  | true => exact absurd (h.1 rfl) hn
theorem c_impl_readFrame (b : List UInt8) (a : Nat) (ha : a ≤ b.length) (hb : b.length ≤ 100000) : PC Tryz.prog false 183 [.str b, .int .i64 (a : Nat)] (.tup [.str (frR b a), .int .i64 (frQ b a : Nat), .bool (frOk b a)]) [] := by
  have hi := fr_impl ha
  have hy := fY_len ha
  refine pc_at Tryz.func183 rfl (by kernel_rfl) 41 [.tmp 4, .tmp 5, .tmp 6] rfl rfl ?_
  repeat' (conv => whnf); first
    | (refine nameB_cases (b := (fZ b a).2.2) (fun h => ?_) (fun h => ?_))
    | exact side_of (fr_side ha)
    | refine nameB_true ?_
    | refine nameB_false ?_
    | refine nameB_yes (by assumption) ?_
    | refine nameB_no (by assumption) ?_
    | refine nameB_dyes (by assumption) ?_
    | refine nameB_dno (by assumption) ?_
    | (refine nameB_dec (fun h => ?_) (fun h => ?_) <;> try simp only [lensB, midL_len, mkL_length, Int.toNat_natCast, fact_byte] at h)
    | (refine nameB_cases (fun h => ?_) (fun h => ?_) <;> try simp only [bne_iff_ne, ne_eq, bne_eq_false_iff_eq, beq_iff_eq, beq_eq_false_iff_ne, Bool.not_eq_true', Bool.not_eq_false', Bool.or_eq_true, Bool.or_eq_false_iff, lensB, midL_len, mkL_length, Int.toNat_natCast, fact_byte] at h)
    | refine splitB_true ?_
    | refine splitB_false ?_
    | (refine splitB_intro (fun h => ?_) (fun h => ?_) <;> subst h)
    | refine draw_text (by kernel_rfl) (by kernel_rfl) (by kernel_rfl) ?_
    | refine both_intro ?_ ?_
    | refine eitherB_l ?_
    | exact True.intro
    | (show Go.Ab.CallA _ _ _ _ _ _ _; first
        | refine CallB (c_impl_num b a false ha (by omega)) rfl rfl rfl rfl rfl rfl ?_
        | refine CallB (c_impl_take b (fX b a).2.1 (fX b a).2.2 (fX b a).1 (fX_ok ha).hi (by omega) (fX_ok ha).nn (fX_ok ha).le) rfl rfl rfl rfl rfl rfl ?_
        | refine CallB (c_impl_take b (fY b a).2.1 (fY b a).2.2 3 (fY_ok ha).hi (by omega) (by omega) (by omega)) rfl rfl rfl rfl rfl rfl ?_
        | refine Call0 (c_impl_seal (fY b a).1 (by omega)) rfl rfl ?_)
    | (show Go.Ab.CallD _ _ _ _ _ _ _; refine CallD0 (c_impl_seal (fY b a).1 (by omega)) rfl rfl rfl ?_)
    | refine ix_map_at hx ?_
    | refine ix_map_at hy ?_
    | refine sl_pre (by omega) (fun _ => rfl) ?_
    | refine sl_suf (by omega) (fun _ => rfl) ?_
    | (refine ix_map2 hx (by omega) (by (try simp only [List.length_take]); omega) (fun y hy => ?_); try simp only [Int.toNat_natCast] at hy)
    | (refine ix_map (by omega) (by (try simp only [List.length_take]); omega) (fun x hx => ?_); try simp only [Int.toNat_natCast] at hx)
    | refine side_and (side_of (by first | (and_intros <;> first | exact Nat.le_of_ble_eq_true rfl | rfl | omega | (simp only [lensB, lensC, List.length_replicate, midL_len, mkL_length]; omega) | exact bytes_ok (Nat.le_of_ble_eq_true rfl) (by omega) (by simp only [lensB, lensC, List.length_replicate, midL_len, mkL_length]; omega) | exact bytes_okN (Nat.le_of_ble_eq_true rfl) (by simp only [lensB, lensC, List.length_replicate, midL_len, mkL_length]; omega)) | fail)) ?_
    | refine nilB_intro (fun h => ?_) ?_
    | refine side_and (side_of (show Go.Ab.structOk _ _ = true by kernel_rfl)) ?_
    | refine side_and (side_of (map_len (fun _ => rfl))) ?_
    | refine side_and (side_of (map_one (fun _ => rfl) _)) ?_
    | refine side_and ?_ ?_
    | refine LoadK_of rfl rfl ?_
    | refine LoadD_cel rfl rfl rfl rfl ?_
    | refine LoadD_of rfl ?_
    | refine StoreD_of rfl rfl rfl ?_
    | refine AppD_of rfl (by and_intros <;> first | rfl | decide) (by simp only [lensC]; first | (refine ⟨by omega, ?_⟩; refine Nat.le_trans (Nat.mul_le_mul_left _ (show _ ≤ 512 by decide)) ?_; omega) | fail) ?_
    | refine AppN_of rfl rfl (by and_intros <;> rfl) (by simp only [lensC]; first | (refine ⟨by omega, ?_⟩; refine Nat.le_trans (Nat.mul_le_mul_left _ (show _ ≤ 512 by decide)) ?_; omega) | fail) ?_
    | (show False; omega)
  all_goals
    conv => whnf
    first
    | (have e := fr_bad ha (by first | exact .inl (by assumption) | exact .inr (.inl (by assumption)) | exact .inr (.inr (by assumption))); have q := fr_no e; rw [q.1, q.2.1, e]; exact OutA_plain rfl rfl rfl)
    | (have e := fr_good ha (by assumption) (by assumption) (by assumption); exact OutA_plain rfl rfl (fr_out ha e))
theorem c_spec_l6Frame (s : List UInt8) (h : s.length ≤ 1048576) : PC Tryz.prog false 78 [.str s] (.str (numB (s.length : Nat) ++ sealB s)) [] := by
  refine pc_at Tryz.func78 rfl (by kernel_rfl) 9 [.tmp 2] rfl rfl ?_
  repeat' (conv => whnf); first
    | exact side_of (by have h1 := numB_len (s.length : Nat); have h2 : (sealB s).length = s.length + 3 := (by unfold sealB threeB; simp); omega)
    | refine nameB_true ?_
    | refine nameB_false ?_
    | refine nameB_yes (by assumption) ?_
    | refine nameB_no (by assumption) ?_
    | refine nameB_dyes (by assumption) ?_
    | refine nameB_dno (by assumption) ?_
    | (refine nameB_dec (fun h => ?_) (fun h => ?_) <;> try simp only [lensB, midL_len, mkL_length, Int.toNat_natCast, fact_byte] at h)
    | (refine nameB_cases (fun h => ?_) (fun h => ?_) <;> try simp only [bne_iff_ne, ne_eq, bne_eq_false_iff_eq, beq_iff_eq, beq_eq_false_iff_ne, Bool.not_eq_true', Bool.not_eq_false', Bool.or_eq_true, Bool.or_eq_false_iff, lensB, midL_len, mkL_length, Int.toNat_natCast, fact_byte] at h)
    | refine splitB_true ?_
    | refine splitB_false ?_
    | (refine splitB_intro (fun h => ?_) (fun h => ?_) <;> subst h)
    | refine draw_text (by kernel_rfl) (by kernel_rfl) (by kernel_rfl) ?_
    | refine both_intro ?_ ?_
    | refine eitherB_l ?_
    | exact True.intro
    | (show Go.Ab.CallA _ _ _ _ _ _ _; first
        | refine Call0 (c_spec_l1NumB9 (s.length : Nat) (by omega) (by omega)) rfl rfl ?_
        | refine Call0 (c_spec_l1Seal s (by omega)) rfl rfl ?_)
    | refine ix_map_at hx ?_
    | refine ix_map_at hy ?_
    | refine sl_pre (by omega) (fun _ => rfl) ?_
    | refine sl_suf (by omega) (fun _ => rfl) ?_
    | (refine ix_map2 hx (by omega) (by (try simp only [List.length_take]); omega) (fun y hy => ?_); try simp only [Int.toNat_natCast] at hy)
    | (refine ix_map (by omega) (by (try simp only [List.length_take]); omega) (fun x hx => ?_); try simp only [Int.toNat_natCast] at hx)
    | refine side_and (side_of (by first | (and_intros <;> first | exact Nat.le_of_ble_eq_true rfl | rfl | omega | (simp only [lensB, lensC, List.length_replicate, midL_len, mkL_length]; omega) | exact bytes_ok (Nat.le_of_ble_eq_true rfl) (by omega) (by simp only [lensB, lensC, List.length_replicate, midL_len, mkL_length]; omega) | exact bytes_okN (Nat.le_of_ble_eq_true rfl) (by simp only [lensB, lensC, List.length_replicate, midL_len, mkL_length]; omega)) | fail)) ?_
    | refine nilB_intro (fun h => ?_) ?_
    | refine side_and (side_of (show Go.Ab.structOk _ _ = true by kernel_rfl)) ?_
    | refine side_and (side_of (map_len (fun _ => rfl))) ?_
    | refine side_and (side_of (map_one (fun _ => rfl) _)) ?_
    | refine side_and ?_ ?_
    | refine LoadK_of rfl rfl ?_
    | refine LoadD_cel rfl rfl rfl rfl ?_
    | refine LoadD_of rfl ?_
    | refine StoreD_of rfl rfl rfl ?_
    | refine AppD_of rfl (by and_intros <;> first | rfl | decide) (by simp only [lensC]; first | (refine ⟨by omega, ?_⟩; refine Nat.le_trans (Nat.mul_le_mul_left _ (show _ ≤ 512 by decide)) ?_; omega) | fail) ?_
    | refine AppN_of rfl rfl (by and_intros <;> rfl) (by simp only [lensC]; first | (refine ⟨by omega, ?_⟩; refine Nat.le_trans (Nat.mul_le_mul_left _ (show _ ≤ 512 by decide)) ?_; omega) | fail) ?_
    | (show False; omega)
  all_goals
    conv => whnf
    exact OutA_plain rfl rfl rfl
theorem frS_700 {b : List UInt8} {a : Nat} : (frS b a).length ≤ b.length := by
  unfold frS
  rw [List.length_drop, List.length_take]
  omega
theorem c_spec_l6Read (b : List UInt8) (a : Nat) (ha : a ≤ b.length) (hb : b.length ≤ 100000) : PC Tryz.prog false 142 [.str b, .int .i64 (a : Nat)] (.tup [.str (frR b a), .int .i64 (frT b a)]) [] := by
  have ok := numFS_ok (f := false) ha
  have o1 := ok.nn
  have o2 := ok.le
  have o3 := ok.hi
  have o4 := ok.lo
  have hw1 : IntKind.i64.wrap ((numFS b a false).1 + 3) = (numFS b a false).1 + 3 := i64w (by omega) (by omega)
  have hw2 : IntKind.i64.wrap ((b.length : Int) - ((numFS b a false).2.1 : Int)) = (b.length : Int) - ((numFS b a false).2.1 : Int) := i64w (by omega) (by omega)
  have hw3 : IntKind.i64.wrap (((numFS b a false).2.1 : Int) + (numFS b a false).1) = ((numFS b a false).2.1 : Int) + (numFS b a false).1 := i64w (by omega) (by omega)
  have hw4 : IntKind.i64.wrap (((numFS b a false).2.1 : Int) + (numFS b a false).1 + 3) = ((numFS b a false).2.1 : Int) + (numFS b a false).1 + 3 := i64w (by omega) (by omega)
  have hsE : (b.take (IntKind.i64.wrap (((numFS b a false).2.1 : Int) + (numFS b a false).1)).toNat).drop ((numFS b a false).2.1 : Int).toNat = frS b a := by
    rw [hw3]
    unfold frS frM frN
    congr 2
    omega
  have hsG : IntKind.i64.wrap (IntKind.i64.wrap (((numFS b a false).2.1 : Int) + (numFS b a false).1) + 3) = (frE b a : Nat) := by
    rw [hw3, hw4]
    unfold frE frM frN
    omega
  have hsF : (b.take (IntKind.i64.wrap (IntKind.i64.wrap (((numFS b a false).2.1 : Int) + (numFS b a false).1) + 3)).toNat).drop a = (b.take (frE b a)).drop a := by
    rw [hsG]
    rfl
  refine pc_at Tryz.func142 rfl (by kernel_rfl) 64 [.tmp 4, .tmp 5] rfl rfl ?_
  repeat' (conv => whnf); first
    | (refine nameB_cases (b := (numFS b a false).2.2) (fun h => ?_) (fun h => ?_))
    | rw [hw1, hw2] at h
    | refine side_and (side_of (by (try simp only [hw3, hw4]); omega)) ?_
    | exact side_of (by rw [hsG]; unfold frE frM frN; omega)
    | refine nameB_true ?_
    | refine nameB_false ?_
    | refine nameB_yes (by assumption) ?_
    | refine nameB_no (by assumption) ?_
    | refine nameB_dyes (by assumption) ?_
    | refine nameB_dno (by assumption) ?_
    | (refine nameB_dec (fun h => ?_) (fun h => ?_) <;> try simp only [lensB, midL_len, mkL_length, Int.toNat_natCast, fact_byte] at h)
    | (refine nameB_cases (fun h => ?_) (fun h => ?_) <;> try simp only [bne_iff_ne, ne_eq, bne_eq_false_iff_eq, beq_iff_eq, beq_eq_false_iff_ne, Bool.not_eq_true', Bool.not_eq_false', Bool.or_eq_true, Bool.or_eq_false_iff, lensB, midL_len, mkL_length, Int.toNat_natCast, fact_byte] at h)
    | refine splitB_true ?_
    | refine splitB_false ?_
    | (refine splitB_intro (fun h => ?_) (fun h => ?_) <;> subst h)
    | refine draw_text (by kernel_rfl) (by kernel_rfl) (by kernel_rfl) ?_
    | refine both_intro ?_ ?_
    | refine eitherB_l ?_
    | exact True.intro
    | (show Go.Ab.CallA _ _ _ _ _ _ _; refine CallB (c_spec_num b a false ha (by omega)) rfl rfl rfl rfl rfl rfl ?_)
    | (show Go.Ab.CallD _ _ _ _ _ _ _; refine CallD0 (c_spec_l6Frame (frS b a) (by have := frS_700 (b := b) (a := a); omega)) (congrArg (fun z => [AV.str z]) hsE) rfl rfl ?_)
    | refine ix_map_at hx ?_
    | refine ix_map_at hy ?_
    | refine sl_pre (by omega) (fun _ => rfl) ?_
    | refine sl_suf (by omega) (fun _ => rfl) ?_
    | (refine ix_map2 hx (by omega) (by (try simp only [List.length_take]); omega) (fun y hy => ?_); try simp only [Int.toNat_natCast] at hy)
    | (refine ix_map (by omega) (by (try simp only [List.length_take]); omega) (fun x hx => ?_); try simp only [Int.toNat_natCast] at hx)
    | refine side_and (side_of (by first | (and_intros <;> first | exact Nat.le_of_ble_eq_true rfl | rfl | omega | (simp only [lensB, lensC, List.length_replicate, midL_len, mkL_length]; omega) | exact bytes_ok (Nat.le_of_ble_eq_true rfl) (by omega) (by simp only [lensB, lensC, List.length_replicate, midL_len, mkL_length]; omega) | exact bytes_okN (Nat.le_of_ble_eq_true rfl) (by simp only [lensB, lensC, List.length_replicate, midL_len, mkL_length]; omega)) | fail)) ?_
    | refine nilB_intro (fun h => ?_) ?_
    | refine side_and (side_of (show Go.Ab.structOk _ _ = true by kernel_rfl)) ?_
    | refine side_and (side_of (map_len (fun _ => rfl))) ?_
    | refine side_and (side_of (map_one (fun _ => rfl) _)) ?_
    | refine side_and ?_ ?_
    | refine LoadK_of rfl rfl ?_
    | refine LoadD_cel rfl rfl rfl rfl ?_
    | refine LoadD_of rfl ?_
    | refine StoreD_of rfl rfl rfl ?_
    | refine AppD_of rfl (by and_intros <;> first | rfl | decide) (by simp only [lensC]; first | (refine ⟨by omega, ?_⟩; refine Nat.le_trans (Nat.mul_le_mul_left _ (show _ ≤ 512 by decide)) ?_; omega) | fail) ?_
    | refine AppN_of rfl rfl (by and_intros <;> rfl) (by simp only [lensC]; first | (refine ⟨by omega, ?_⟩; refine Nat.le_trans (Nat.mul_le_mul_left _ (show _ ≤ 512 by decide)) ?_; omega) | fail) ?_
    | (show False; omega)
  all_goals
    conv => whnf
    first
    | (have e := fs_bad ha (by first | exact .inl (by assumption) | exact .inr (.inl (by assumption)) | exact .inr (.inr (by assumption))); have q := fr_no e; rw [q.1, q.2.2]; exact OutA_plain rfl rfl rfl)
    | (have hq := fs_seal ha (by assumption) (by assumption) (by assumption) hsF
       first
       | (have e := hq.2 (by assumption); have q := fr_yes e; rw [q.1, q.2.2]; exact OutA_plain rfl rfl (by rw [← hsE, ← hsG]; rfl))
       | (have e := iff_no hq (by assumption); have q := fr_no e; rw [q.1, q.2.2]; exact OutA_plain rfl rfl rfl))
end Go.Proofs.YtfpkfnfgloonhaaGreat
