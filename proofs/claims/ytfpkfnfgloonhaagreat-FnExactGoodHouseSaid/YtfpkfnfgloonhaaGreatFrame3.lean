/-
  What the readers of disks give.
  No condition.
-/
import Derived.Test.YtfpkfnfgloonhaaGreatFrame2
import Derived.Test.YtfpkfnfgloonhaaGreatTypesZ
import Derived.Test.YtfpkfnfgloonhaaGreatProm
namespace Go.Proofs.YtfpkfnfgloonhaaGreat
open Go.Ab
set_option linter.unusedSimpArgs false
set_option maxRecDepth 20000
set_option maxHeartbeats 4000000
set_option linter.unusedVariables false

theorem c_impl_readFrame_no (b : List UInt8) (a : Nat) (ha : a ≤ b.length) (hb : b.length ≤ 100000) (h : frOk b a = false) : PC Tryz.prog false 183 [.str b, .int .i64 (a : Nat)] (.tup [.str [], .int .i64 0, .bool false]) [] := by
  have := c_impl_readFrame b a ha hb
  have q := fr_no h
  rw [q.1, q.2.1, h] at this
  exact this
theorem c_impl_readFrame_yes (b : List UInt8) (a : Nat) (ha : a ≤ b.length) (hb : b.length ≤ 100000) (h : frOk b a = true) : PC Tryz.prog false 183 [.str b, .int .i64 (a : Nat)] (.tup [.str (frS b a), .int .i64 (frE b a : Nat), .bool true]) [] := by
  have := c_impl_readFrame b a ha hb
  have q := fr_yes h
  rw [q.1, q.2.1, h] at this
  exact this
theorem c_spec_l6Read_no (b : List UInt8) (a : Nat) (ha : a ≤ b.length) (hb : b.length ≤ 100000) (h : frOk b a = false) : PC Tryz.prog false 142 [.str b, .int .i64 (a : Nat)] (.tup [.str [], .int .i64 (-1)]) [] := by
  have := c_spec_l6Read b a ha hb
  have q := fr_no h
  rw [q.1, q.2.2] at this
  exact this
theorem c_spec_l6Read_yes (b : List UInt8) (a : Nat) (ha : a ≤ b.length) (hb : b.length ≤ 100000) (h : frOk b a = true) : PC Tryz.prog false 142 [.str b, .int .i64 (a : Nat)] (.tup [.str (frS b a), .int .i64 (frE b a : Nat)]) [] := by
  have := c_spec_l6Read b a ha hb
  have q := fr_yes h
  rw [q.1, q.2.2] at this
  exact this
def FrInv (b : List UInt8) (a : Nat) (acc : List (List UInt8)) : Prop := (a ≤ b.length ∧ acc.length ≤ a) ∧ acc ++ (frames b a).1 = (frames b 0).1 ∧ (frames b a).2 = (frames b 0).2
theorem FrInv.start (b : List UInt8) : FrInv b 0 [] := ⟨⟨Nat.zero_le _, Nat.zero_le _⟩, rfl, rfl⟩
theorem FrInv.next {b : List UInt8} {a : Nat} {acc : List (List UInt8)} (h : FrInv b a acc) (hf : frOk b a = true) : FrInv b (frE b a) (acc ++ [frS b a]) := by
  have he := frE_lt hf
  obtain ⟨⟨h1, h2⟩, h3, h4⟩ := h
  rw [frames_yes hf] at h3 h4
  refine ⟨⟨he.2, ?_⟩, ?_, h4⟩
  · rw [List.length_append]
    simp only [List.length_cons, List.length_nil]
    omega
  · rw [List.append_assoc]
    exact h3
theorem FrInv.stop {b : List UInt8} {a : Nat} {acc : List (List UInt8)} (h : FrInv b a acc) (hf : frOk b a = false) : (frames b 0).1 = acc ∧ (frames b 0).2 = a := by
  obtain ⟨_, h3, h4⟩ := h
  rw [frames_no hf] at h3 h4
  exact ⟨by rw [← h3, List.append_nil], h4.symm⟩
theorem c_impl_framesOf (b : List UInt8) (hb : b.length ≤ 100000) : PC Tryz.prog false 147 [.str b] (.tup [.own 0, .int .i64 ((frames b 0).2 : Nat)]) [⟨false, 9, 1, (frames b 0).1.map strC⟩] := by
  refine pc_at Tryz.func147 rfl (by kernel_rfl) 26 [.tmp 2, .tmp 3] rfl rfl ?_
  repeat' (conv => whnf); first
    | refine side_and (side_of (one_lenC rfl rfl)) ?_
    | refine side_and (side_of (by first | (and_intros <;> first | exact Nat.le_of_ble_eq_true rfl | rfl | (intro e; exact absurd (AV.own.inj e) (by decide)) | (intro e; exact AV.noConfusion e)) | fail)) ?_
    | refine side_and (side_of (app_boundC (L := acc.map strC) rfl (by (rw [List.length_map]; omega)) (Nat.le_of_ble_eq_true rfl))) ?_
    | refine nameB_true ?_
    | refine nameB_false ?_
    | refine nameB_yes (by assumption) ?_
    | refine nameB_no (by assumption) ?_
    | refine nameB_dyes (by assumption) ?_
    | refine nameB_dno (by assumption) ?_
    | (refine nameB_dec (fun h => ?_) (fun h => ?_) <;> try simp only [lensB, midL_len, mkL_length, Int.toNat_natCast, fact_byte] at h)
    | (refine nameB_cases (fun h => ?_) (fun h => ?_) <;> try simp only [bne_iff_ne, ne_eq, bne_eq_false_iff_eq, beq_iff_eq, beq_eq_false_iff_ne, Bool.not_eq_true', Bool.not_eq_false', Bool.or_eq_true, Bool.or_eq_false_iff, lensB, midL_len, mkL_length, Int.toNat_natCast, fact_byte] at h)
    | refine splitB_true ?_
    | refine splitB_false ?_
    | (refine splitB_intro (fun h => ?_) (fun h => ?_) <;> subst h)
    | refine draw_text (by kernel_rfl) (by kernel_rfl) (by kernel_rfl) ?_
    | refine both_intro ?_ ?_
    | refine eitherB_l ?_
    | exact True.intro
    | (show Go.Ab.Loop _ _ _; (refine Loop_nil 4 1 9 1 rfl rfl (by decide) ?_; refine Loop_at [0] [] (Nat × List (List UInt8)) (fun j => match j with | (a, acc) => (a ≤ b.length ∧ acc.length ≤ a) ∧ FrInv b a acc) (fun j => match j with | (a, acc) => [(5, .int .i64 (a : Nat)), (4, .own 1)]) (fun j => match j with | (a, acc) => [(1, ⟨false, 9, 1, acc.map strC⟩)]) (fun j => match j with | (a, acc) => b.length - a) (0, []) ⟨by first | (simp_all <;> fail) | rfl | fail, by first | rfl | (simp_all <;> fail) | fail, trivial⟩ ⟨by first | rfl | exact congrArg (fun e => some (AObj.mk _ _ _ e)) (by rw [List.map_append]; rfl) | fail | fail, trivial⟩ (by (try dsimp only); first | (exact ⟨(FrInv.start b).1, FrInv.start b⟩) | fail) ?_; (conv => whnf); refine side_and (side_of (by first | exact fun ⟨a, acc⟩ => rfl | exact fun ⟨a, acc⟩ => by simp [headOk, closedE, closedO, closedL, AV.closed, hcap.closed, hasId, AObj.box, BK.ofB])) ?_; rintro ⟨a, acc⟩ hT; try dsimp only at hT))
    | (show Go.Ab.Again _ _ _ _ _ _ _ _ _ _ _; refine Again_of (frE b a, acc ++ [frS b a]) ⟨by first | rfl | exact i64_next (by omega) | (simp_all <;> fail) | fail, by first | rfl | (simp_all <;> fail) | fail, trivial⟩ ⟨by first | rfl | exact congrArg (fun e => some (AObj.mk _ _ _ e)) (by rw [List.map_append]; rfl) | fail | fail, trivial⟩ (by first | (and_intros <;> first | rfl | trivial) | fail) (by first | (and_intros <;> first | rfl | trivial) | fail) rfl rfl rfl (by (try dsimp only); first | (exact ⟨(hT.2.next hf).1, hT.2.next hf⟩) | fail) (show _ < _ by (try dsimp only); omega))
    | (show Go.Ab.CallA _ _ _ _ _ _ _; (rcases hf : frOk b a with _ | _ <;> first | refine Call0 (c_impl_readFrame_no b a hT.1.1 hb hf) rfl rfl ?_ | (have he := frE_lt hf; refine Call0 (c_impl_readFrame_yes b a hT.1.1 hb hf) rfl rfl ?_)))
    | refine ix_map_at hx ?_
    | refine ix_map_at hy ?_
    | refine sl_pre (by omega) (fun _ => rfl) ?_
    | refine sl_suf (by omega) (fun _ => rfl) ?_
    | (refine ix_map2 hx (by omega) (by (try simp only [List.length_take]); omega) (fun y hy => ?_); try simp only [Int.toNat_natCast] at hy)
    | (refine ix_map (by omega) (by (try simp only [List.length_take]); omega) (fun x hx => ?_); try simp only [Int.toNat_natCast] at hx)
    | refine side_and (side_of (by first | (and_intros <;> first | exact Nat.le_of_ble_eq_true rfl | rfl | omega | (simp only [lensB, lensC, List.length_replicate, midL_len, mkL_length]; omega) | exact bytes_ok (Nat.le_of_ble_eq_true rfl) (by omega) (by simp only [lensB, lensC, List.length_replicate, midL_len, mkL_length]; omega) | exact bytes_okN (Nat.le_of_ble_eq_true rfl) (by simp only [lensB, lensC, List.length_replicate, midL_len, mkL_length]; omega)) | fail)) ?_
    | refine nilB_intro (fun h => ?_) ?_
    | refine side_and (side_of (show Go.Ab.structOk _ _ = true by kernel_rfl)) ?_
    | refine side_and (side_of (map_len (fun _ => rfl))) ?_
    | refine side_and (side_of (map_one (fun _ => rfl) _)) ?_
    | refine side_and ?_ ?_
    | refine LoadK_of rfl rfl ?_
    | refine LoadD_cel rfl rfl rfl rfl ?_
    | refine LoadD_of rfl ?_
    | refine StoreD_of rfl rfl rfl ?_
    | refine AppD_of rfl (by and_intros <;> first | rfl | decide) (by simp only [lensC]; first | (refine ⟨by omega, ?_⟩; refine Nat.le_trans (Nat.mul_le_mul_left _ (show _ ≤ 512 by decide)) ?_; omega) | fail) ?_
    | refine AppN_of rfl rfl (by and_intros <;> rfl) (by simp only [lensC]; first | (refine ⟨by omega, ?_⟩; refine Nat.le_trans (Nat.mul_le_mul_left _ (show _ ≤ 512 by decide)) ?_; omega) | fail) ?_
    | (show False; omega)
  all_goals
    conv => whnf
    first
    | (have q := hT.2.stop hf; rw [q.1, q.2]; exact OutA_ids rfl rfl rfl ⟨⟨_, _, _, rfl, rfl⟩, trivial⟩ rfl (.inr (flat_one (flat_map (fun _ => rfl) _))))
theorem c_spec_l6Frames (b : List UInt8) (hb : b.length ≤ 100000) : PC Tryz.prog false 94 [.str b] (.tup [.own 0, .int .i64 ((frames b 0).2 : Nat)]) [⟨false, 9, 1, (frames b 0).1.map strC⟩] := by
  refine pc_at Tryz.func94 rfl (by kernel_rfl) 24 [.tmp 2, .tmp 3] rfl rfl ?_
  repeat' (conv => whnf); first
    | refine side_and (side_of (one_lenC rfl rfl)) ?_
    | refine side_and (side_of (by first | (and_intros <;> first | exact Nat.le_of_ble_eq_true rfl | rfl | (intro e; exact absurd (AV.own.inj e) (by decide)) | (intro e; exact AV.noConfusion e)) | fail)) ?_
    | refine side_and (side_of (app_boundC (L := acc.map strC) rfl (by (rw [List.length_map]; omega)) (Nat.le_of_ble_eq_true rfl))) ?_
    | refine nameB_true ?_
    | refine nameB_false ?_
    | refine nameB_yes (by assumption) ?_
    | refine nameB_no (by assumption) ?_
    | refine nameB_dyes (by assumption) ?_
    | refine nameB_dno (by assumption) ?_
    | (refine nameB_dec (fun h => ?_) (fun h => ?_) <;> try simp only [lensB, midL_len, mkL_length, Int.toNat_natCast, fact_byte] at h)
    | (refine nameB_cases (fun h => ?_) (fun h => ?_) <;> try simp only [bne_iff_ne, ne_eq, bne_eq_false_iff_eq, beq_iff_eq, beq_eq_false_iff_ne, Bool.not_eq_true', Bool.not_eq_false', Bool.or_eq_true, Bool.or_eq_false_iff, lensB, midL_len, mkL_length, Int.toNat_natCast, fact_byte] at h)
    | refine splitB_true ?_
    | refine splitB_false ?_
    | (refine splitB_intro (fun h => ?_) (fun h => ?_) <;> subst h)
    | refine draw_text (by kernel_rfl) (by kernel_rfl) (by kernel_rfl) ?_
    | refine both_intro ?_ ?_
    | refine eitherB_l ?_
    | exact True.intro
    | (show Go.Ab.Loop _ _ _; (refine Loop_nil 4 1 9 1 rfl rfl (by decide) ?_; refine Loop_at [0] [] (Nat × List (List UInt8)) (fun j => match j with | (a, acc) => (a ≤ b.length ∧ acc.length ≤ a) ∧ FrInv b a acc) (fun j => match j with | (a, acc) => [(5, .int .i64 (a : Nat)), (4, .own 1)]) (fun j => match j with | (a, acc) => [(1, ⟨false, 9, 1, acc.map strC⟩)]) (fun j => match j with | (a, acc) => b.length - a) (0, []) ⟨by first | (simp_all <;> fail) | rfl | fail, by first | rfl | (simp_all <;> fail) | fail, trivial⟩ ⟨by first | rfl | exact congrArg (fun e => some (AObj.mk _ _ _ e)) (by rw [List.map_append]; rfl) | fail | fail, trivial⟩ (by (try dsimp only); first | (exact ⟨(FrInv.start b).1, FrInv.start b⟩) | fail) ?_; (conv => whnf); refine side_and (side_of (by first | exact fun ⟨a, acc⟩ => rfl | exact fun ⟨a, acc⟩ => by simp [headOk, closedE, closedO, closedL, AV.closed, hcap.closed, hasId, AObj.box, BK.ofB])) ?_; rintro ⟨a, acc⟩ hT; try dsimp only at hT))
    | (show Go.Ab.Again _ _ _ _ _ _ _ _ _ _ _; refine Again_of (frE b a, acc ++ [frS b a]) ⟨by first | rfl | exact i64_next (by omega) | (simp_all <;> fail) | fail, by first | rfl | (simp_all <;> fail) | fail, trivial⟩ ⟨by first | rfl | exact congrArg (fun e => some (AObj.mk _ _ _ e)) (by rw [List.map_append]; rfl) | fail | fail, trivial⟩ (by first | (and_intros <;> first | rfl | trivial) | fail) (by first | (and_intros <;> first | rfl | trivial) | fail) rfl rfl rfl (by (try dsimp only); first | (exact ⟨(hT.2.next hf).1, hT.2.next hf⟩) | fail) (show _ < _ by (try dsimp only); omega))
    | (show Go.Ab.CallA _ _ _ _ _ _ _; (rcases hf : frOk b a with _ | _ <;> first | refine Call0 (c_spec_l6Read_no b a hT.1.1 hb hf) rfl rfl ?_ | (have he := frE_lt hf; refine Call0 (c_spec_l6Read_yes b a hT.1.1 hb hf) rfl rfl ?_)))
    | refine ix_map_at hx ?_
    | refine ix_map_at hy ?_
    | refine sl_pre (by omega) (fun _ => rfl) ?_
    | refine sl_suf (by omega) (fun _ => rfl) ?_
    | (refine ix_map2 hx (by omega) (by (try simp only [List.length_take]); omega) (fun y hy => ?_); try simp only [Int.toNat_natCast] at hy)
    | (refine ix_map (by omega) (by (try simp only [List.length_take]); omega) (fun x hx => ?_); try simp only [Int.toNat_natCast] at hx)
    | refine side_and (side_of (by first | (and_intros <;> first | exact Nat.le_of_ble_eq_true rfl | rfl | omega | (simp only [lensB, lensC, List.length_replicate, midL_len, mkL_length]; omega) | exact bytes_ok (Nat.le_of_ble_eq_true rfl) (by omega) (by simp only [lensB, lensC, List.length_replicate, midL_len, mkL_length]; omega) | exact bytes_okN (Nat.le_of_ble_eq_true rfl) (by simp only [lensB, lensC, List.length_replicate, midL_len, mkL_length]; omega)) | fail)) ?_
    | refine nilB_intro (fun h => ?_) ?_
    | refine side_and (side_of (show Go.Ab.structOk _ _ = true by kernel_rfl)) ?_
    | refine side_and (side_of (map_len (fun _ => rfl))) ?_
    | refine side_and (side_of (map_one (fun _ => rfl) _)) ?_
    | refine side_and ?_ ?_
    | refine LoadK_of rfl rfl ?_
    | refine LoadD_cel rfl rfl rfl rfl ?_
    | refine LoadD_of rfl ?_
    | refine StoreD_of rfl rfl rfl ?_
    | refine AppD_of rfl (by and_intros <;> first | rfl | decide) (by simp only [lensC]; first | (refine ⟨by omega, ?_⟩; refine Nat.le_trans (Nat.mul_le_mul_left _ (show _ ≤ 512 by decide)) ?_; omega) | fail) ?_
    | refine AppN_of rfl rfl (by and_intros <;> rfl) (by simp only [lensC]; first | (refine ⟨by omega, ?_⟩; refine Nat.le_trans (Nat.mul_le_mul_left _ (show _ ≤ 512 by decide)) ?_; omega) | fail) ?_
    | (show False; omega)
  all_goals
    conv => whnf
    first
    | (exfalso; omega)
    | (have q := hT.2.stop hf; rw [q.1, q.2]; exact OutA_ids rfl rfl rfl ⟨⟨_, _, _, rfl, rfl⟩, trivial⟩ rfl (.inr (flat_one (flat_map (fun _ => rfl) _))))
def okDsk (d : DiskT) : Bool := decide ((d.Kept.length : Int) + d.Loose.length ≤ 50000)
theorem c_impl_GoodDisk (d : DiskT) (hw : d.w ≤ 1048576) : PC Tryz.prog false 151 [.agg d.cells] (.bool (okDsk d)) [] := by
  have h0 : d.w = d.Kept.length + d.Loose.length := rfl
  have h1 : IntKind.i64.wrap ((d.Kept.length : Int) + d.Loose.length) = (d.Kept.length : Int) + d.Loose.length := i64w (by omega) (by omega)
  refine pc_at Tryz.func151 rfl (by kernel_rfl) 11 [.tmp 2] rfl rfl ?_
  repeat' (conv => whnf); first
    | refine nameB_true ?_
    | refine nameB_false ?_
    | refine nameB_yes (by assumption) ?_
    | refine nameB_no (by assumption) ?_
    | refine nameB_dyes (by assumption) ?_
    | refine nameB_dno (by assumption) ?_
    | (refine nameB_dec (fun h => ?_) (fun h => ?_) <;> try simp only [lensB, midL_len, mkL_length, Int.toNat_natCast, fact_byte] at h)
    | (refine nameB_cases (fun h => ?_) (fun h => ?_) <;> try simp only [bne_iff_ne, ne_eq, bne_eq_false_iff_eq, beq_iff_eq, beq_eq_false_iff_ne, Bool.not_eq_true', Bool.not_eq_false', Bool.or_eq_true, Bool.or_eq_false_iff, lensB, midL_len, mkL_length, Int.toNat_natCast, fact_byte] at h)
    | refine splitB_true ?_
    | refine splitB_false ?_
    | (refine splitB_intro (fun h => ?_) (fun h => ?_) <;> subst h)
    | refine draw_text (by kernel_rfl) (by kernel_rfl) (by kernel_rfl) ?_
    | refine both_intro ?_ ?_
    | refine eitherB_l ?_
    | exact True.intro
    | refine ix_map_at hx ?_
    | refine ix_map_at hy ?_
    | refine sl_pre (by omega) (fun _ => rfl) ?_
    | refine sl_suf (by omega) (fun _ => rfl) ?_
    | (refine ix_map2 hx (by omega) (by (try simp only [List.length_take]); omega) (fun y hy => ?_); try simp only [Int.toNat_natCast] at hy)
    | (refine ix_map (by omega) (by (try simp only [List.length_take]); omega) (fun x hx => ?_); try simp only [Int.toNat_natCast] at hx)
    | refine side_and (side_of (by first | (and_intros <;> first | exact Nat.le_of_ble_eq_true rfl | rfl | omega | (simp only [lensB, lensC, List.length_replicate, midL_len, mkL_length]; omega) | exact bytes_ok (Nat.le_of_ble_eq_true rfl) (by omega) (by simp only [lensB, lensC, List.length_replicate, midL_len, mkL_length]; omega) | exact bytes_okN (Nat.le_of_ble_eq_true rfl) (by simp only [lensB, lensC, List.length_replicate, midL_len, mkL_length]; omega)) | fail)) ?_
    | refine nilB_intro (fun h => ?_) ?_
    | refine side_and (side_of (show Go.Ab.structOk _ _ = true by kernel_rfl)) ?_
    | refine side_and (side_of (map_len (fun _ => rfl))) ?_
    | refine side_and (side_of (map_one (fun _ => rfl) _)) ?_
    | refine side_and ?_ ?_
    | refine LoadK_of rfl rfl ?_
    | refine LoadD_cel rfl rfl rfl rfl ?_
    | refine LoadD_of rfl ?_
    | refine StoreD_of rfl rfl rfl ?_
    | refine AppD_of rfl (by and_intros <;> first | rfl | decide) (by simp only [lensC]; first | (refine ⟨by omega, ?_⟩; refine Nat.le_trans (Nat.mul_le_mul_left _ (show _ ≤ 512 by decide)) ?_; omega) | fail) ?_
    | refine AppN_of rfl rfl (by and_intros <;> rfl) (by simp only [lensC]; first | (refine ⟨by omega, ?_⟩; refine Nat.le_trans (Nat.mul_le_mul_left _ (show _ ≤ 512 by decide)) ?_; omega) | fail) ?_
    | (show False; omega)
  all_goals
    conv => whnf
    refine OutA_plain rfl rfl ?_
    unfold okDsk
    rw [← h1]
    first | (rw [decide_eq_true (by assumption)]; rfl) | (rw [decide_eq_false (by assumption)]; rfl)
theorem c_spec_GoodDisk (d : DiskT) (hw : d.w ≤ 1048576) : PC Tryz.prog false 88 [.agg d.cells] (.bool (okDsk d)) [] := by
  have h0 : d.w = d.Kept.length + d.Loose.length := rfl
  have h1 : IntKind.i64.wrap ((d.Kept.length : Int) + d.Loose.length) = (d.Kept.length : Int) + d.Loose.length := i64w (by omega) (by omega)
  refine pc_at Tryz.func88 rfl (by kernel_rfl) 11 [.tmp 2] rfl rfl ?_
  repeat' (conv => whnf); first
    | refine nameB_true ?_
    | refine nameB_false ?_
    | refine nameB_yes (by assumption) ?_
    | refine nameB_no (by assumption) ?_
    | refine nameB_dyes (by assumption) ?_
    | refine nameB_dno (by assumption) ?_
    | (refine nameB_dec (fun h => ?_) (fun h => ?_) <;> try simp only [lensB, midL_len, mkL_length, Int.toNat_natCast, fact_byte] at h)
    | (refine nameB_cases (fun h => ?_) (fun h => ?_) <;> try simp only [bne_iff_ne, ne_eq, bne_eq_false_iff_eq, beq_iff_eq, beq_eq_false_iff_ne, Bool.not_eq_true', Bool.not_eq_false', Bool.or_eq_true, Bool.or_eq_false_iff, lensB, midL_len, mkL_length, Int.toNat_natCast, fact_byte] at h)
    | refine splitB_true ?_
    | refine splitB_false ?_
    | (refine splitB_intro (fun h => ?_) (fun h => ?_) <;> subst h)
    | refine draw_text (by kernel_rfl) (by kernel_rfl) (by kernel_rfl) ?_
    | refine both_intro ?_ ?_
    | refine eitherB_l ?_
    | exact True.intro
    | refine ix_map_at hx ?_
    | refine ix_map_at hy ?_
    | refine sl_pre (by omega) (fun _ => rfl) ?_
    | refine sl_suf (by omega) (fun _ => rfl) ?_
    | (refine ix_map2 hx (by omega) (by (try simp only [List.length_take]); omega) (fun y hy => ?_); try simp only [Int.toNat_natCast] at hy)
    | (refine ix_map (by omega) (by (try simp only [List.length_take]); omega) (fun x hx => ?_); try simp only [Int.toNat_natCast] at hx)
    | refine side_and (side_of (by first | (and_intros <;> first | exact Nat.le_of_ble_eq_true rfl | rfl | omega | (simp only [lensB, lensC, List.length_replicate, midL_len, mkL_length]; omega) | exact bytes_ok (Nat.le_of_ble_eq_true rfl) (by omega) (by simp only [lensB, lensC, List.length_replicate, midL_len, mkL_length]; omega) | exact bytes_okN (Nat.le_of_ble_eq_true rfl) (by simp only [lensB, lensC, List.length_replicate, midL_len, mkL_length]; omega)) | fail)) ?_
    | refine nilB_intro (fun h => ?_) ?_
    | refine side_and (side_of (show Go.Ab.structOk _ _ = true by kernel_rfl)) ?_
    | refine side_and (side_of (map_len (fun _ => rfl))) ?_
    | refine side_and (side_of (map_one (fun _ => rfl) _)) ?_
    | refine side_and ?_ ?_
    | refine LoadK_of rfl rfl ?_
    | refine LoadD_cel rfl rfl rfl rfl ?_
    | refine LoadD_of rfl ?_
    | refine StoreD_of rfl rfl rfl ?_
    | refine AppD_of rfl (by and_intros <;> first | rfl | decide) (by simp only [lensC]; first | (refine ⟨by omega, ?_⟩; refine Nat.le_trans (Nat.mul_le_mul_left _ (show _ ≤ 512 by decide)) ?_; omega) | fail) ?_
    | refine AppN_of rfl rfl (by and_intros <;> rfl) (by simp only [lensC]; first | (refine ⟨by omega, ?_⟩; refine Nat.le_trans (Nat.mul_le_mul_left _ (show _ ≤ 512 by decide)) ?_; omega) | fail) ?_
    | (show False; omega)
  all_goals
    conv => whnf
    refine OutA_plain rfl rfl ?_
    unfold okDsk
    rw [← h1]
    first | (rw [decide_eq_true (by assumption)]; rfl) | (rw [decide_eq_false (by assumption)]; rfl)
end Go.Proofs.YtfpkfnfgloonhaaGreat
