/-
  What ReadEntry gives.
  No condition.
-/
import Derived.Test.YtfpkfnfgloonhaaGreatRead8
namespace Go.Proofs.YtfpkfnfgloonhaaGreat
open Go.Ab
set_option linter.unusedSimpArgs false
set_option maxRecDepth 20000
set_option maxHeartbeats 4000000
set_option linter.unusedVariables false

theorem numB_len5 : ∀ (m j : Nat) (n : Int), j + m = 4 → 0 ≤ n → n ≤ bnd9 j → (numB n).length ≤ m + 1
  | m, j, n, hj, h0, h => by
    by_cases hn : n ≥ 128
    · have hb := bnd9_next h hn
      have ht := tdiv_128 hn
      cases m with
      | zero => omega
      | succ m =>
        rw [numB_ge hn, List.length_cons]
        have := numB_len5 m (j + 1) (n.tdiv 128) (by omega) ht.1 hb.1
        omega
    · rw [numB_lt hn]; show 1 ≤ _; omega
theorem numB_five {n : Int} (h0 : 0 ≤ n) (h : n ≤ 1000000000) : (numB n).length ≤ 5 := numB_len5 4 0 n rfl h0 h
theorem flat_len {α : Type} {f : α → List UInt8} {n : Nat} : ∀ (l : List α), (∀ x ∈ l, (f x).length ≤ n) → (l.map f).flatten.length ≤ n * l.length
  | [], _ => by simp
  | x :: l, h => by
    have h1 := h x (by simp)
    have h2 := flat_len l (fun y hy => h y (by simp [hy]))
    simp only [List.map_cons, List.flatten_cons, List.length_append, List.length_cons, Nat.mul_add]
    omega
theorem textB_small {s : List UInt8} (h : s.length ≤ 60) : (textB s).length ≤ 65 := by
  have := numB_five (n := (s.length : Nat)) (by omega) (by omega)
  unfold textB
  rw [List.length_append]
  omega
theorem recB_small {r : RecT} (h : SmallR r) (hg : okRec r = true) : (recB r).length ≤ 5900 := by
  obtain ⟨⟨k0, k1⟩, ⟨t0, t1⟩, ⟨m0, m1⟩, ⟨l0, l1⟩⟩ := rec_nums hg
  have hn : r.Writes.length ≤ 8 ∧ r.Reads.length ≤ 8 := by
    unfold okRec at hg
    split at hg
    · simp only [Bool.and_eq_true, decide_eq_true_eq] at hg
      omega
    · simp only [Bool.and_eq_true, decide_eq_true_eq] at hg
      omega
  have a1 := numB_five (n := r.Kind) (by omega) (by omega)
  have a2 := numB_five (n := r.Txn) (by omega) (by omega)
  have a3 := numB_five (n := r.Time) (by omega) (by omega)
  have a4 := numB_five (n := r.Lead) (by omega) (by omega)
  have a5 := flagB_len r.Yes
  have a6 := numB_five (n := (r.Reads.length : Nat)) (by omega) (by omega)
  have a7 := numB_five (n := (r.Writes.length : Nat)) (by omega) (by omega)
  have a8 : (textsG r.Reads).length ≤ 65 * r.Reads.length := flat_len (f := textB) r.Reads (fun x hx => textB_small (h.rl x hx))
  have a9 : (wG r.Writes).length ≤ 131 * r.Writes.length := flat_len (f := wB) r.Writes (fun x hx => by
    have h1 := textB_small (h.wl x hx).1
    have h2 := textB_small (h.wl x hx).2
    unfold wB
    rw [List.length_append, List.length_append, flagB_len]
    omega)
  unfold recB sealB threeB recH textsB
  simp only [List.length_append, List.length_cons, List.length_nil]
  omega
/-- Bytes of which a record can be read are few. -/
theorem outR_len {b : List UInt8} (h : (outR b).2 = true) : b.length ≤ 5900 ∧ SmallR (outR b).1 := by
  cases hc : ((sealF b).2 && goodR b (recS (sealF b).1)) with
  | false => rw [outR_no hc] at h; cases h
  | true =>
    rw [outR_yes hc]
    simp only [Bool.and_eq_true] at hc
    obtain ⟨h1, h2⟩ := hc
    have h3 := h2
    unfold goodR at h3
    simp only [Bool.and_eq_true, Bool.not_eq_true', decide_eq_true_eq] at h3
    have hs := recS_small (sealF_len h1).1 h3.1.1
    have := recB_small hs h3.1.2
    rw [h3.2] at this
    exact ⟨this, hs⟩
theorem zeroR_small : SmallR zeroR := ⟨Nat.zero_le _, Nat.zero_le _, fun x hx => (by cases hx), fun x hx => (by cases hx)⟩
theorem outR_small {b : List UInt8} : SmallR (outR b).1 := by
  cases h : (outR b).2 with
  | true => exact (outR_len h).2
  | false =>
    cases hc : ((sealF b).2 && goodR b (recS (sealF b).1)) with
    | false => rw [outR_no hc]; exact zeroR_small
    | true => rw [outR_yes hc] at h; cases h
theorem numL_hi {b : List UInt8} {s : Nat} : ∀ (f : Nat) (n q : Int) (a : Nat), (numL b s f n q a).2.1 ≤ a + f
  | 0, n, q, a => Nat.le_refl _
  | f + 1, n, q, a => by
    unfold numL
    cases hx : b[a]? with
    | none => show a ≤ _; omega
    | some x =>
      simp only
      split
      · show a + 1 ≤ _; omega
      · split
        · unfold finI
          split
          · show a + 1 ≤ _; omega
          · show a + 1 ≤ _; omega
        · have := numL_hi (b := b) (s := s) f (n + ((x.toNat % 128 : Nat) : Int) * q) (q * 128) (a + 1)
          omega
def zeroE : EntryT := ⟨0, zeroR⟩
def okE (b : List UInt8) : Bool := decide (b.length ≤ 6000) && !(numFS b 0 false).2.2 && inB 1 (numFS b 0 false).1 200 && (outR (b.drop (numFS b 0 false).2.1)).2
def outE (b : List UInt8) : EntryT := match okE b with | true => ⟨(numFS b 0 false).1, (outR (b.drop (numFS b 0 false).2.1)).1⟩ | false => zeroE
theorem outE_yes {b : List UInt8} (h : okE b = true) : outE b = ⟨(numFS b 0 false).1, (outR (b.drop (numFS b 0 false).2.1)).1⟩ := by unfold outE; rw [h]
theorem outE_no {b : List UInt8} (h : okE b = false) : outE b = zeroE := by unfold outE; rw [h]
theorem num0_rel {b : List UInt8} : RelG (numFI b 0 false) (numFS b 0 false) := numF_rel
theorem okE_I {b : List UInt8} (h : (numFI b 0 false).2.2 = false) (h2 : inB 1 (numFI b 0 false).1 200 = true) : okE b = (outR (b.drop (numFI b 0 false).2.1)).2 := by
  have e := num0_rel (b := b)
  have hs : (numFS b 0 false).2.2 = false := e.1.symm.trans h
  have e2 := e.2 hs
  unfold okE
  rw [← e2, h, h2]
  cases hr : (outR (b.drop (numFI b 0 false).2.1)).2 with
  | false => rw [Bool.and_false]
  | true =>
    have hl := (outR_len hr).1
    rw [List.length_drop] at hl
    have hh : (numFI b 0 false).2.1 ≤ 0 + 6 := numL_hi 6 0 1 0
    rw [decide_eq_true (by omega)]
    rfl
theorem outE_I {b : List UInt8} (h : (numFI b 0 false).2.2 = false) (h2 : inB 1 (numFI b 0 false).1 200 = true) (h3 : (outR (b.drop (numFI b 0 false).2.1)).2 = true) : outE b = ⟨(numFI b 0 false).1, (outR (b.drop (numFI b 0 false).2.1)).1⟩ := by
  have e := num0_rel (b := b)
  have hs : (numFS b 0 false).2.2 = false := e.1.symm.trans h
  rw [outE_yes ((okE_I h h2).trans h3), ← e.2 hs]
theorem okE_bad {b : List UInt8} (h : (numFI b 0 false).2.2 = true) : okE b = false := by
  have hs : (numFS b 0 false).2.2 = true := num0_rel.1.symm.trans h
  unfold okE
  rw [hs]
  simp
theorem okE_in {b : List UInt8} (h : (numFI b 0 false).2.2 = false) (h2 : inB 1 (numFI b 0 false).1 200 = false) : okE b = false := by
  have e := num0_rel (b := b)
  have hs : (numFS b 0 false).2.2 = false := e.1.symm.trans h
  unfold okE
  rw [← e.2 hs, h2]
  simp
theorem rest_eq {b : List UInt8} {a : Nat} : List.drop ((a : Nat) : Int).toNat (List.take ((b.length : Nat) : Int).toNat b) = b.drop a := by
  rw [Int.toNat_natCast, Int.toNat_natCast, List.take_length]
theorem c_impl_ReadEntry (b : List UInt8) (hb : b.length ≤ 1073741824) : PC Tryz.prog false 148 [.str b] (.tup [.agg [.int .i64 (outE b).Term, .int .i64 (outE b).Rec.Kind, .int .i64 (outE b).Rec.Txn, .int .i64 (outE b).Rec.Time, .int .i64 (outE b).Rec.Lead, .own 0, .own 1, .bool (outE b).Rec.Yes], .bool (okE b)]) [⟨false, 9, 1, (outE b).Rec.Reads.map strC⟩, ⟨false, 154, 3, (outE b).Rec.Writes.map WriteT.cells⟩] := by
  have ok := numFI_ok (b := b) (f := false) (Nat.zero_le _)
  have hi := ok.hi
  have hrr := c_impl_ReadRec (b.drop (numFI b 0 false).2.1) (by rw [List.length_drop]; omega)
  refine pc_at Tryz.func148 rfl (by kernel_rfl) 39 [.cell 2 124, .tmp 3] rfl rfl ?_
  repeat' (conv => whnf); first
    | exact side_of (by first | omega | (refine ⟨by omega, by omega, by omega⟩) | fail)
    | refine nameB_self (b := (outR (b.drop (numFI b 0 false).2.1)).1.Yes) ?_
    | refine nameB_true ?_
    | refine nameB_false ?_
    | refine nameB_yes (by assumption) ?_
    | refine nameB_no (by assumption) ?_
    | refine nameB_dyes (by assumption) ?_
    | refine nameB_dno (by assumption) ?_
    | (refine nameB_dec (fun h => ?_) (fun h => ?_) <;> try simp only [lensB, midL_len, mkL_length, Int.toNat_natCast, fact_byte] at h)
    | (refine nameB_cases (fun h => ?_) (fun h => ?_) <;> try simp only [bne_iff_ne, ne_eq, bne_eq_false_iff_eq, beq_iff_eq, beq_eq_false_iff_ne, Bool.not_eq_true', Bool.not_eq_false', Bool.or_eq_true, Bool.or_eq_false_iff, lensB, midL_len, mkL_length, Int.toNat_natCast, fact_byte] at h)
    | refine splitB_true ?_
    | refine splitB_false ?_
    | (refine splitB_intro (fun h => ?_) (fun h => ?_) <;> subst h)
    | refine draw_text (by kernel_rfl) (by kernel_rfl) (by kernel_rfl) ?_
    | refine both_intro ?_ ?_
    | refine eitherB_l ?_
    | exact True.intro
    | (show Go.Ab.CallA _ _ _ _ _ _ _; first
        | refine CallB (c_impl_num b 0 false (Nat.zero_le _) hb) rfl rfl rfl rfl rfl rfl ?_
        | refine Call0 (c_impl_within ..) rfl rfl ?_
        | refine CallF hrr (congrArg (fun l => [AV.str l]) (rest_eq (b := b) (a := (numFI b 0 false).2.1))) rfl rfl (Nat.le_of_ble_eq_true rfl) ?_)
    | refine ix_map_at hx ?_
    | refine ix_map_at hy ?_
    | refine sl_pre (by omega) (fun _ => rfl) ?_
    | refine sl_suf (by omega) (fun _ => rfl) ?_
    | (refine ix_map2 hx (by omega) (by (try simp only [List.length_take]); omega) (fun y hy => ?_); try simp only [Int.toNat_natCast] at hy)
    | (refine ix_map (by omega) (by (try simp only [List.length_take]); omega) (fun x hx => ?_); try simp only [Int.toNat_natCast] at hx)
    | refine side_and (side_of (by first | (and_intros <;> first | exact Nat.le_of_ble_eq_true rfl | rfl | omega | (simp only [lensB, lensC, List.length_replicate, midL_len, mkL_length]; omega) | exact bytes_ok (Nat.le_of_ble_eq_true rfl) (by omega) (by simp only [lensB, lensC, List.length_replicate, midL_len, mkL_length]; omega) | exact bytes_okN (Nat.le_of_ble_eq_true rfl) (by simp only [lensB, lensC, List.length_replicate, midL_len, mkL_length]; omega)) | fail)) ?_
    | refine nilB_intro (fun h => ?_) ?_
    | refine side_and (side_of (show Go.Ab.structOk _ _ = true by kernel_rfl)) ?_
    | refine side_and (side_of (map_len (fun _ => rfl))) ?_
    | refine side_and (side_of (map_one (fun _ => rfl) _)) ?_
    | refine side_and ?_ ?_
    | refine LoadK_of rfl rfl ?_
    | refine LoadD_cel rfl rfl rfl rfl ?_
    | refine LoadD_of rfl ?_
    | refine StoreD_of rfl rfl rfl ?_
    | refine AppD_of rfl (by and_intros <;> first | rfl | decide) (by simp only [lensC]; first | (refine ⟨by omega, ?_⟩; refine Nat.le_trans (Nat.mul_le_mul_left _ (show _ ≤ 512 by decide)) ?_; omega) | fail) ?_
    | refine AppN_of rfl rfl (by and_intros <;> rfl) (by simp only [lensC]; first | (refine ⟨by omega, ?_⟩; refine Nat.le_trans (Nat.mul_le_mul_left _ (show _ ≤ 512 by decide)) ?_; omega) | fail) ?_
    | (show False; omega)
  all_goals
    conv => whnf
    first
    | (have e : okE b = false := (by first | exact okE_bad (by assumption) | exact okE_in (by assumption) (by assumption) | exact (okE_I (by assumption) (by assumption)).trans (by assumption)); rw [outE_no e, e]; exact OutA_nilB 0 2 9 1 5 rfl rfl rfl (by decide) (OutA_nilB 0 3 154 3 6 rfl rfl rfl (by decide) (OutA_ids rfl rfl rfl ⟨⟨_, _, _, rfl, rfl⟩, ⟨_, _, _, rfl, rfl⟩, trivial⟩ rfl (.inr (by intro o ho; simp only [List.mem_cons, List.not_mem_nil, or_false] at ho; rcases ho with rfl | rfl <;> rfl)))))
    | (have e : okE b = true := (okE_I (by assumption) (by assumption)).trans (by assumption); rw [outE_I (by assumption) (by assumption) (by assumption), e]; exact OutA_ids rfl rfl rfl ⟨⟨_, _, _, rfl, rfl⟩, ⟨_, _, _, rfl, rfl⟩, trivial⟩ rfl (.inr (by intro o ho; simp only [List.mem_cons, List.not_mem_nil, or_false] at ho; rcases ho with rfl | rfl <;> exact flat_map (fun _ => rfl) _)))
theorem c_spec_l1Place (b : List UInt8) (hb : b.length ≤ 1073741824) : PC Tryz.prog false 174 [.str b, .int .i64 0] (.bool (decide (b.length ≤ 6000))) [] := by
  have hin : inB 0 0 (b.length : Int) = true := by simp only [inB, Bool.and_eq_true, decide_eq_true_eq]; omega
  have hc := c_spec_l1In 0 0 (b.length : Int)
  rw [hin] at hc
  refine pc_at Tryz.func174 rfl (by kernel_rfl) 14 [.tmp 4] rfl rfl ?_
  repeat' (conv => whnf); first
    | refine nameB_true ?_
    | refine nameB_false ?_
    | refine nameB_yes (by assumption) ?_
    | refine nameB_no (by assumption) ?_
    | refine nameB_dyes (by assumption) ?_
    | refine nameB_dno (by assumption) ?_
    | (refine nameB_dec (fun h => ?_) (fun h => ?_) <;> try simp only [lensB, midL_len, mkL_length, Int.toNat_natCast, fact_byte] at h)
    | (refine nameB_cases (fun h => ?_) (fun h => ?_) <;> try simp only [bne_iff_ne, ne_eq, bne_eq_false_iff_eq, beq_iff_eq, beq_eq_false_iff_ne, Bool.not_eq_true', Bool.not_eq_false', Bool.or_eq_true, Bool.or_eq_false_iff, lensB, midL_len, mkL_length, Int.toNat_natCast, fact_byte] at h)
    | refine splitB_true ?_
    | refine splitB_false ?_
    | (refine splitB_intro (fun h => ?_) (fun h => ?_) <;> subst h)
    | refine draw_text (by kernel_rfl) (by kernel_rfl) (by kernel_rfl) ?_
    | refine both_intro ?_ ?_
    | refine eitherB_l ?_
    | exact True.intro
    | (show Go.Ab.CallA _ _ _ _ _ _ _; refine Call0 (hc) rfl rfl ?_)
    | refine ix_map_at hx ?_
    | refine ix_map_at hy ?_
    | refine sl_pre (by omega) (fun _ => rfl) ?_
    | refine sl_suf (by omega) (fun _ => rfl) ?_
    | (refine ix_map2 hx (by omega) (by (try simp only [List.length_take]); omega) (fun y hy => ?_); try simp only [Int.toNat_natCast] at hy)
    | (refine ix_map (by omega) (by (try simp only [List.length_take]); omega) (fun x hx => ?_); try simp only [Int.toNat_natCast] at hx)
    | refine side_and (side_of (by first | (and_intros <;> first | exact Nat.le_of_ble_eq_true rfl | rfl | omega | (simp only [lensB, lensC, List.length_replicate, midL_len, mkL_length]; omega) | exact bytes_ok (Nat.le_of_ble_eq_true rfl) (by omega) (by simp only [lensB, lensC, List.length_replicate, midL_len, mkL_length]; omega) | exact bytes_okN (Nat.le_of_ble_eq_true rfl) (by simp only [lensB, lensC, List.length_replicate, midL_len, mkL_length]; omega)) | fail)) ?_
    | refine nilB_intro (fun h => ?_) ?_
    | refine side_and (side_of (show Go.Ab.structOk _ _ = true by kernel_rfl)) ?_
    | refine side_and (side_of (map_len (fun _ => rfl))) ?_
    | refine side_and (side_of (map_one (fun _ => rfl) _)) ?_
    | refine side_and ?_ ?_
    | refine LoadK_of rfl rfl ?_
    | refine LoadD_cel rfl rfl rfl rfl ?_
    | refine LoadD_of rfl ?_
    | refine StoreD_of rfl rfl rfl ?_
    | refine AppD_of rfl (by and_intros <;> first | rfl | decide) (by simp only [lensC]; first | (refine ⟨by omega, ?_⟩; refine Nat.le_trans (Nat.mul_le_mul_left _ (show _ ≤ 512 by decide)) ?_; omega) | fail) ?_
    | refine AppN_of rfl rfl (by and_intros <;> rfl) (by simp only [lensC]; first | (refine ⟨by omega, ?_⟩; refine Nat.le_trans (Nat.mul_le_mul_left _ (show _ ≤ 512 by decide)) ?_; omega) | fail) ?_
    | (show False; omega)
  all_goals
    conv => whnf
    refine OutA_plain rfl rfl ?_
    first
    | (rw [decide_eq_true (p := b.length ≤ 6000) (by omega)]; rfl)
    | (rw [decide_eq_false (p := b.length ≤ 6000) (by omega)]; rfl)
theorem c_spec_ReadNum_no (b : List UInt8) (hb : b.length ≤ 1073741824) (h : (decide (b.length ≤ 6000) && !(numFS b 0 false).2.2) = false) : PC Tryz.prog false 143 [.str b, .int .i64 0] (.tup [.int .i64 0, .int .i64 0, .bool false]) [] := by
  refine pc_at Tryz.func143 rfl (by kernel_rfl) 28 [.tmp 4, .tmp 5, .tmp 6] rfl rfl ?_
  repeat' (conv => whnf); first
    | refine nameB_true ?_
    | refine nameB_false ?_
    | refine nameB_yes (by assumption) ?_
    | refine nameB_no (by assumption) ?_
    | refine nameB_dyes (by assumption) ?_
    | refine nameB_dno (by assumption) ?_
    | (refine nameB_dec (fun h => ?_) (fun h => ?_) <;> try simp only [lensB, midL_len, mkL_length, Int.toNat_natCast, fact_byte] at h)
    | (refine nameB_cases (fun h => ?_) (fun h => ?_) <;> try simp only [bne_iff_ne, ne_eq, bne_eq_false_iff_eq, beq_iff_eq, beq_eq_false_iff_ne, Bool.not_eq_true', Bool.not_eq_false', Bool.or_eq_true, Bool.or_eq_false_iff, lensB, midL_len, mkL_length, Int.toNat_natCast, fact_byte] at h)
    | refine splitB_true ?_
    | refine splitB_false ?_
    | (refine splitB_intro (fun h => ?_) (fun h => ?_) <;> subst h)
    | refine draw_text (by kernel_rfl) (by kernel_rfl) (by kernel_rfl) ?_
    | refine both_intro ?_ ?_
    | refine eitherB_l ?_
    | exact True.intro
    | (show Go.Ab.CallA _ _ _ _ _ _ _; first
        | refine Call0 (c_spec_l1Place b hb) rfl rfl ?_
        | refine CallB (c_spec_num b 0 false (Nat.zero_le _) hb) rfl rfl rfl rfl rfl rfl ?_)
    | (show Go.Ab.CallD _ _ _ _ _ _ _; refine CallD0 (c_spec_l1Place b hb) rfl rfl rfl ?_)
    | refine ix_map_at hx ?_
    | refine ix_map_at hy ?_
    | refine sl_pre (by omega) (fun _ => rfl) ?_
    | refine sl_suf (by omega) (fun _ => rfl) ?_
    | (refine ix_map2 hx (by omega) (by (try simp only [List.length_take]); omega) (fun y hy => ?_); try simp only [Int.toNat_natCast] at hy)
    | (refine ix_map (by omega) (by (try simp only [List.length_take]); omega) (fun x hx => ?_); try simp only [Int.toNat_natCast] at hx)
    | refine side_and (side_of (by first | (and_intros <;> first | exact Nat.le_of_ble_eq_true rfl | rfl | omega | (simp only [lensB, lensC, List.length_replicate, midL_len, mkL_length]; omega) | exact bytes_ok (Nat.le_of_ble_eq_true rfl) (by omega) (by simp only [lensB, lensC, List.length_replicate, midL_len, mkL_length]; omega) | exact bytes_okN (Nat.le_of_ble_eq_true rfl) (by simp only [lensB, lensC, List.length_replicate, midL_len, mkL_length]; omega)) | fail)) ?_
    | refine nilB_intro (fun h => ?_) ?_
    | refine side_and (side_of (show Go.Ab.structOk _ _ = true by kernel_rfl)) ?_
    | refine side_and (side_of (map_len (fun _ => rfl))) ?_
    | refine side_and (side_of (map_one (fun _ => rfl) _)) ?_
    | refine side_and ?_ ?_
    | refine LoadK_of rfl rfl ?_
    | refine LoadD_cel rfl rfl rfl rfl ?_
    | refine LoadD_of rfl ?_
    | refine StoreD_of rfl rfl rfl ?_
    | refine AppD_of rfl (by and_intros <;> first | rfl | decide) (by simp only [lensC]; first | (refine ⟨by omega, ?_⟩; refine Nat.le_trans (Nat.mul_le_mul_left _ (show _ ≤ 512 by decide)) ?_; omega) | fail) ?_
    | refine AppN_of rfl rfl (by and_intros <;> rfl) (by simp only [lensC]; first | (refine ⟨by omega, ?_⟩; refine Nat.le_trans (Nat.mul_le_mul_left _ (show _ ≤ 512 by decide)) ?_; omega) | fail) ?_
    | (show False; omega)
  all_goals
    conv => whnf
    first
    | exact OutA_plain rfl rfl rfl
    | (exfalso; simp_all; done)
theorem c_spec_ReadNum_yes (b : List UInt8) (hb : b.length ≤ 1073741824) (h : (decide (b.length ≤ 6000) && !(numFS b 0 false).2.2) = true) : PC Tryz.prog false 143 [.str b, .int .i64 0] (.tup [.int .i64 (numFS b 0 false).1, .int .i64 ((numFS b 0 false).2.1 : Int), .bool true]) [] := by
  refine pc_at Tryz.func143 rfl (by kernel_rfl) 28 [.tmp 4, .tmp 5, .tmp 6] rfl rfl ?_
  repeat' (conv => whnf); first
    | refine nameB_true ?_
    | refine nameB_false ?_
    | refine nameB_yes (by assumption) ?_
    | refine nameB_no (by assumption) ?_
    | refine nameB_dyes (by assumption) ?_
    | refine nameB_dno (by assumption) ?_
    | (refine nameB_dec (fun h => ?_) (fun h => ?_) <;> try simp only [lensB, midL_len, mkL_length, Int.toNat_natCast, fact_byte] at h)
    | (refine nameB_cases (fun h => ?_) (fun h => ?_) <;> try simp only [bne_iff_ne, ne_eq, bne_eq_false_iff_eq, beq_iff_eq, beq_eq_false_iff_ne, Bool.not_eq_true', Bool.not_eq_false', Bool.or_eq_true, Bool.or_eq_false_iff, lensB, midL_len, mkL_length, Int.toNat_natCast, fact_byte] at h)
    | refine splitB_true ?_
    | refine splitB_false ?_
    | (refine splitB_intro (fun h => ?_) (fun h => ?_) <;> subst h)
    | refine draw_text (by kernel_rfl) (by kernel_rfl) (by kernel_rfl) ?_
    | refine both_intro ?_ ?_
    | refine eitherB_l ?_
    | exact True.intro
    | (show Go.Ab.CallA _ _ _ _ _ _ _; first
        | refine Call0 (c_spec_l1Place b hb) rfl rfl ?_
        | refine CallB (c_spec_num b 0 false (Nat.zero_le _) hb) rfl rfl rfl rfl rfl rfl ?_)
    | (show Go.Ab.CallD _ _ _ _ _ _ _; refine CallD0 (c_spec_l1Place b hb) rfl rfl rfl ?_)
    | refine ix_map_at hx ?_
    | refine ix_map_at hy ?_
    | refine sl_pre (by omega) (fun _ => rfl) ?_
    | refine sl_suf (by omega) (fun _ => rfl) ?_
    | (refine ix_map2 hx (by omega) (by (try simp only [List.length_take]); omega) (fun y hy => ?_); try simp only [Int.toNat_natCast] at hy)
    | (refine ix_map (by omega) (by (try simp only [List.length_take]); omega) (fun x hx => ?_); try simp only [Int.toNat_natCast] at hx)
    | refine side_and (side_of (by first | (and_intros <;> first | exact Nat.le_of_ble_eq_true rfl | rfl | omega | (simp only [lensB, lensC, List.length_replicate, midL_len, mkL_length]; omega) | exact bytes_ok (Nat.le_of_ble_eq_true rfl) (by omega) (by simp only [lensB, lensC, List.length_replicate, midL_len, mkL_length]; omega) | exact bytes_okN (Nat.le_of_ble_eq_true rfl) (by simp only [lensB, lensC, List.length_replicate, midL_len, mkL_length]; omega)) | fail)) ?_
    | refine nilB_intro (fun h => ?_) ?_
    | refine side_and (side_of (show Go.Ab.structOk _ _ = true by kernel_rfl)) ?_
    | refine side_and (side_of (map_len (fun _ => rfl))) ?_
    | refine side_and (side_of (map_one (fun _ => rfl) _)) ?_
    | refine side_and ?_ ?_
    | refine LoadK_of rfl rfl ?_
    | refine LoadD_cel rfl rfl rfl rfl ?_
    | refine LoadD_of rfl ?_
    | refine StoreD_of rfl rfl rfl ?_
    | refine AppD_of rfl (by and_intros <;> first | rfl | decide) (by simp only [lensC]; first | (refine ⟨by omega, ?_⟩; refine Nat.le_trans (Nat.mul_le_mul_left _ (show _ ≤ 512 by decide)) ?_; omega) | fail) ?_
    | refine AppN_of rfl rfl (by and_intros <;> rfl) (by simp only [lensC]; first | (refine ⟨by omega, ?_⟩; refine Nat.le_trans (Nat.mul_le_mul_left _ (show _ ≤ 512 by decide)) ?_; omega) | fail) ?_
    | (show False; omega)
  all_goals
    conv => whnf
    first
    | exact OutA_plain rfl rfl rfl
    | (exfalso; simp_all; done)
theorem c_spec_ReadEntry (b : List UInt8) (hb : b.length ≤ 1073741824) : PC Tryz.prog false 96 [.str b] (.tup [.agg [.int .i64 (outE b).Term, .int .i64 (outE b).Rec.Kind, .int .i64 (outE b).Rec.Txn, .int .i64 (outE b).Rec.Time, .int .i64 (outE b).Rec.Lead, .own 0, .own 1, .bool (outE b).Rec.Yes], .bool (okE b)]) [⟨false, 9, 1, (outE b).Rec.Reads.map strC⟩, ⟨false, 154, 3, (outE b).Rec.Writes.map WriteT.cells⟩] := by
  have ok := numFS_ok (b := b) (f := false) (Nat.zero_le _)
  have hi := ok.hi
  have hrr := c_spec_ReadRec (b.drop (numFS b 0 false).2.1) (by rw [List.length_drop]; omega)
  cases hn : (decide (b.length ≤ 6000) && !(numFS b 0 false).2.2) with
  | false =>
    have e : okE b = false := by unfold okE; rw [hn]; rfl
    rw [outE_no e, e]
    refine pc_at Tryz.func96 rfl (by kernel_rfl) 36 [.cell 2 124, .tmp 3] rfl rfl ?_
    repeat' (conv => whnf); first
      | refine nameB_true ?_
      | refine nameB_false ?_
      | refine nameB_yes (by assumption) ?_
      | refine nameB_no (by assumption) ?_
      | refine nameB_dyes (by assumption) ?_
      | refine nameB_dno (by assumption) ?_
      | (refine nameB_dec (fun h => ?_) (fun h => ?_) <;> try simp only [lensB, midL_len, mkL_length, Int.toNat_natCast, fact_byte] at h)
      | (refine nameB_cases (fun h => ?_) (fun h => ?_) <;> try simp only [bne_iff_ne, ne_eq, bne_eq_false_iff_eq, beq_iff_eq, beq_eq_false_iff_ne, Bool.not_eq_true', Bool.not_eq_false', Bool.or_eq_true, Bool.or_eq_false_iff, lensB, midL_len, mkL_length, Int.toNat_natCast, fact_byte] at h)
      | refine splitB_true ?_
      | refine splitB_false ?_
      | (refine splitB_intro (fun h => ?_) (fun h => ?_) <;> subst h)
      | refine draw_text (by kernel_rfl) (by kernel_rfl) (by kernel_rfl) ?_
      | refine both_intro ?_ ?_
      | refine eitherB_l ?_
      | exact True.intro
      | (show Go.Ab.CallA _ _ _ _ _ _ _; refine Call0 (c_spec_ReadNum_no b hb hn) rfl rfl ?_)
      | refine ix_map_at hx ?_
      | refine ix_map_at hy ?_
      | refine sl_pre (by omega) (fun _ => rfl) ?_
      | refine sl_suf (by omega) (fun _ => rfl) ?_
      | (refine ix_map2 hx (by omega) (by (try simp only [List.length_take]); omega) (fun y hy => ?_); try simp only [Int.toNat_natCast] at hy)
      | (refine ix_map (by omega) (by (try simp only [List.length_take]); omega) (fun x hx => ?_); try simp only [Int.toNat_natCast] at hx)
      | refine side_and (side_of (by first | (and_intros <;> first | exact Nat.le_of_ble_eq_true rfl | rfl | omega | (simp only [lensB, lensC, List.length_replicate, midL_len, mkL_length]; omega) | exact bytes_ok (Nat.le_of_ble_eq_true rfl) (by omega) (by simp only [lensB, lensC, List.length_replicate, midL_len, mkL_length]; omega) | exact bytes_okN (Nat.le_of_ble_eq_true rfl) (by simp only [lensB, lensC, List.length_replicate, midL_len, mkL_length]; omega)) | fail)) ?_
      | refine nilB_intro (fun h => ?_) ?_
      | refine side_and (side_of (show Go.Ab.structOk _ _ = true by kernel_rfl)) ?_
      | refine side_and (side_of (map_len (fun _ => rfl))) ?_
      | refine side_and (side_of (map_one (fun _ => rfl) _)) ?_
      | refine side_and ?_ ?_
      | refine LoadK_of rfl rfl ?_
      | refine LoadD_cel rfl rfl rfl rfl ?_
      | refine LoadD_of rfl ?_
      | refine StoreD_of rfl rfl rfl ?_
      | refine AppD_of rfl (by and_intros <;> first | rfl | decide) (by simp only [lensC]; first | (refine ⟨by omega, ?_⟩; refine Nat.le_trans (Nat.mul_le_mul_left _ (show _ ≤ 512 by decide)) ?_; omega) | fail) ?_
      | refine AppN_of rfl rfl (by and_intros <;> rfl) (by simp only [lensC]; first | (refine ⟨by omega, ?_⟩; refine Nat.le_trans (Nat.mul_le_mul_left _ (show _ ≤ 512 by decide)) ?_; omega) | fail) ?_
      | (show False; omega)
    all_goals
      conv => whnf
      exact OutA_nilB 0 2 9 1 5 rfl rfl rfl (by decide) (OutA_nilB 0 3 154 3 6 rfl rfl rfl (by decide) (OutA_ids rfl rfl rfl ⟨⟨_, _, _, rfl, rfl⟩, ⟨_, _, _, rfl, rfl⟩, trivial⟩ rfl (.inr (by intro o ho; simp only [List.mem_cons, List.not_mem_nil, or_false] at ho; rcases ho with rfl | rfl <;> rfl))))
  | true =>
    have hok : okE b = (inB 1 (numFS b 0 false).1 200 && (outR (b.drop (numFS b 0 false).2.1)).2) := by unfold okE; rw [hn, Bool.true_and]
    refine pc_at Tryz.func96 rfl (by kernel_rfl) 36 [.cell 2 124, .tmp 3] rfl rfl ?_
    repeat' (conv => whnf); first
      | exact side_of (by first | omega | (refine ⟨by omega, by omega, by omega⟩) | fail)
      | refine nameB_self (b := (outR (b.drop (numFS b 0 false).2.1)).1.Yes) ?_
      | refine nameB_true ?_
      | refine nameB_false ?_
      | refine nameB_yes (by assumption) ?_
      | refine nameB_no (by assumption) ?_
      | refine nameB_dyes (by assumption) ?_
      | refine nameB_dno (by assumption) ?_
      | (refine nameB_dec (fun h => ?_) (fun h => ?_) <;> try simp only [lensB, midL_len, mkL_length, Int.toNat_natCast, fact_byte] at h)
      | (refine nameB_cases (fun h => ?_) (fun h => ?_) <;> try simp only [bne_iff_ne, ne_eq, bne_eq_false_iff_eq, beq_iff_eq, beq_eq_false_iff_ne, Bool.not_eq_true', Bool.not_eq_false', Bool.or_eq_true, Bool.or_eq_false_iff, lensB, midL_len, mkL_length, Int.toNat_natCast, fact_byte] at h)
      | refine splitB_true ?_
      | refine splitB_false ?_
      | (refine splitB_intro (fun h => ?_) (fun h => ?_) <;> subst h)
      | refine draw_text (by kernel_rfl) (by kernel_rfl) (by kernel_rfl) ?_
      | refine both_intro ?_ ?_
      | refine eitherB_l ?_
      | exact True.intro
      | (show Go.Ab.CallA _ _ _ _ _ _ _; first
          | refine Call0 (c_spec_ReadNum_yes b hb hn) rfl rfl ?_
          | refine Call0 (c_spec_l1In ..) rfl rfl ?_
          | refine CallF hrr (congrArg (fun l => [AV.str l]) (rest_eq (b := b) (a := (numFS b 0 false).2.1))) rfl rfl (Nat.le_of_ble_eq_true rfl) ?_)
      | refine ix_map_at hx ?_
      | refine ix_map_at hy ?_
      | refine sl_pre (by omega) (fun _ => rfl) ?_
      | refine sl_suf (by omega) (fun _ => rfl) ?_
      | (refine ix_map2 hx (by omega) (by (try simp only [List.length_take]); omega) (fun y hy => ?_); try simp only [Int.toNat_natCast] at hy)
      | (refine ix_map (by omega) (by (try simp only [List.length_take]); omega) (fun x hx => ?_); try simp only [Int.toNat_natCast] at hx)
      | refine side_and (side_of (by first | (and_intros <;> first | exact Nat.le_of_ble_eq_true rfl | rfl | omega | (simp only [lensB, lensC, List.length_replicate, midL_len, mkL_length]; omega) | exact bytes_ok (Nat.le_of_ble_eq_true rfl) (by omega) (by simp only [lensB, lensC, List.length_replicate, midL_len, mkL_length]; omega) | exact bytes_okN (Nat.le_of_ble_eq_true rfl) (by simp only [lensB, lensC, List.length_replicate, midL_len, mkL_length]; omega)) | fail)) ?_
      | refine nilB_intro (fun h => ?_) ?_
      | refine side_and (side_of (show Go.Ab.structOk _ _ = true by kernel_rfl)) ?_
      | refine side_and (side_of (map_len (fun _ => rfl))) ?_
      | refine side_and (side_of (map_one (fun _ => rfl) _)) ?_
      | refine side_and ?_ ?_
      | refine LoadK_of rfl rfl ?_
      | refine LoadD_cel rfl rfl rfl rfl ?_
      | refine LoadD_of rfl ?_
      | refine StoreD_of rfl rfl rfl ?_
      | refine AppD_of rfl (by and_intros <;> first | rfl | decide) (by simp only [lensC]; first | (refine ⟨by omega, ?_⟩; refine Nat.le_trans (Nat.mul_le_mul_left _ (show _ ≤ 512 by decide)) ?_; omega) | fail) ?_
      | refine AppN_of rfl rfl (by and_intros <;> rfl) (by simp only [lensC]; first | (refine ⟨by omega, ?_⟩; refine Nat.le_trans (Nat.mul_le_mul_left _ (show _ ≤ 512 by decide)) ?_; omega) | fail) ?_
      | (show False; omega)
    all_goals
      conv => whnf
      first
      | (have e : okE b = false := (by rw [hok]; first | (simp [*]; done) | (simp_all; done)); rw [outE_no e, e]; exact OutA_nilB 0 2 9 1 5 rfl rfl rfl (by decide) (OutA_nilB 0 3 154 3 6 rfl rfl rfl (by decide) (OutA_ids rfl rfl rfl ⟨⟨_, _, _, rfl, rfl⟩, ⟨_, _, _, rfl, rfl⟩, trivial⟩ rfl (.inr (by intro o ho; simp only [List.mem_cons, List.not_mem_nil, or_false] at ho; rcases ho with rfl | rfl <;> rfl)))))
      | (have e : okE b = true := (by rw [hok]; first | (simp [*]; done) | (simp_all; done)); rw [outE_yes e, e]; exact OutA_ids rfl rfl rfl ⟨⟨_, _, _, rfl, rfl⟩, ⟨_, _, _, rfl, rfl⟩, trivial⟩ rfl (.inr (by intro o ho; simp only [List.mem_cons, List.not_mem_nil, or_false] at ho; rcases ho with rfl | rfl <;> exact flat_map (fun _ => rfl) _)))
theorem outE_small {b : List UInt8} : SmallR (outE b).Rec := by
  cases h : okE b with
  | true => rw [outE_yes h]; exact outR_small
  | false => rw [outE_no h]; exact zeroR_small
theorem small_ok {X : EntryT} (h : SmallR X.Rec) : X.ok := ⟨trivial, h.ok⟩
end Go.Proofs.YtfpkfnfgloonhaaGreat
