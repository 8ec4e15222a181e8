/-
  What the functions on networks give.
  No condition.
-/
import Derived.Test.YtkalobhgonaibaaWatch2
namespace Go.Proofs.Ytkalobhgonaibaa
open Go.Ab
set_option linter.unusedSimpArgs false
set_option maxRecDepth 20000
set_option linter.unusedVariables false

def okLetter (n : Nat) (l : LetterT) : Bool := okWho n l.From && okWho n l.To && !decide (l.From = l.To) && inB 0 l.Due 100200 && inB 1 l.Body.length 40
def lastDue (pre : List LetterT) : Int := match pre.getLast? with | some l => l.Due | none => 0
def goodUnder (n : Nat) (pre : List LetterT) (l : LetterT) : Bool := okLetter n l && decide (lastDue pre ≤ l.Due)
def okHomes (xs : List Int) (far : Int) : Bool := inB 1 xs.length 5 && xs.all (fun h => inB 0 h 2) && inB 0 far 20
def okNet (n : NetT) : Bool := inB 0 n.Now 100000 && okHomes n.Homes n.Far && decide ((n.Under.length : Int) ≤ 60) && allPre (goodUnder n.Homes.length) [] n.Under
theorem lastDue_next {xs : List LetterT} {k : Nat} {x : LetterT} (hx : xs[k]? = some x) : lastDue (xs.take (k + 1)) = x.Due := by
  rw [take_get hx]
  simp [lastDue]
theorem lastDue_prev {xs : List LetterT} {k : Nat} {y : LetterT} (hk : (k : Int) > 0) (hy : xs[k - 1]? = some y) : lastDue (xs.take k) = y.Due := by
  obtain ⟨j, rfl⟩ : ∃ j, k = j + 1 := ⟨k - 1, by omega⟩
  exact lastDue_next hy
theorem lastDue_zero {xs : List LetterT} {k : Nat} (hk : ¬ (k : Int) > 0) : lastDue (xs.take k) = 0 := by
  obtain rfl : k = 0 := by omega
  rfl
theorem okLetter_due {n : Nat} {l : LetterT} (h : okLetter n l = true) : 0 ≤ l.Due := by
  simp only [okLetter, Bool.and_eq_true] at h
  exact (inB_le h.1.2).1
theorem gu_yes {n : Nat} {pre : List LetterT} {l : LetterT} (h : okLetter n l = true) (h2 : lastDue pre ≤ l.Due) : goodUnder n pre l = true := by simp only [goodUnder, h, decide_eq_true h2, Bool.and_true]
theorem gu_no1 {n : Nat} {pre : List LetterT} {l : LetterT} (h : okLetter n l = false) : goodUnder n pre l = false := by simp only [goodUnder, h, Bool.false_and]
theorem gu_no2 {n : Nat} {pre : List LetterT} {l : LetterT} (h : ¬ lastDue pre ≤ l.Due) : goodUnder n pre l = false := by simp only [goodUnder, decide_eq_false h, Bool.and_false]
theorem gu_no3 {n : Nat} {pre : List LetterT} {l : LetterT} (h : inB (lastDue pre) l.Due 100200 = false) (h0 : 0 ≤ lastDue pre) : goodUnder n pre l = false := by
  by_cases h2 : lastDue pre ≤ l.Due
  · refine gu_no1 ?_
    have h3 : inB 0 l.Due 100200 = false := by
      cases h4 : inB 0 l.Due 100200 with
      | false => rfl
      | true =>
        have := inB_le h4
        simp only [inB, Bool.and_eq_false_iff, decide_eq_false_iff_not] at h
        omega
    simp only [okLetter, h3, Bool.and_false, Bool.false_and]
  · exact gu_no2 h2
theorem c_impl_areHomes_1 (h : Int) : PC Try.prog false 76 [.int .i64 h] (.bool (!inB 0 h 2)) [] := by
  refine pc_at Try.func76 rfl (by kernel_rfl) 6 [.tmp 2] rfl rfl ?_
  repeat' (conv => whnf); first
    | refine nameB_true ?_
    | refine nameB_false ?_
    | refine nameB_yes (by assumption) ?_
    | refine nameB_no (by assumption) ?_
    | refine nameB_dyes (by assumption) ?_
    | refine nameB_dno (by assumption) ?_
    | (refine nameB_dec (fun h => ?_) (fun h => ?_) <;> try simp only [List.length_map, List.length_take, List.length_append, List.length_drop, List.length_set, markList_length, midL_len, mkL_length, Int.toNat_natCast, fact_byte] at h)
    | (refine nameB_cases (fun h => ?_) (fun h => ?_) <;> try simp only [bne_iff_ne, ne_eq, bne_eq_false_iff_eq, beq_iff_eq, beq_eq_false_iff_ne, Bool.not_eq_true', Bool.not_eq_false', Bool.or_eq_true, Bool.or_eq_false_iff, List.length_map, List.length_take, List.length_append, List.length_drop, List.length_set, markList_length, midL_len, mkL_length, Int.toNat_natCast, fact_byte] at h)
    | refine splitB_true ?_
    | refine splitB_false ?_
    | (refine splitB_intro (fun h => ?_) (fun h => ?_) <;> subst h)
    | refine draw_text (by kernel_rfl) (by kernel_rfl) (by kernel_rfl) ?_
    | refine both_intro ?_ ?_
    | refine eitherB_l ?_
    | exact True.intro
    | (show Go.Ab.CallA _ _ _ _ _ _ _; refine Call0 (c_impl_within ..) rfl rfl ?_)
    | refine ix_map_at hx ?_
    | refine ix_map_at hy ?_
    | refine sl_pre (by omega) (fun _ => rfl) ?_
    | refine sl_suf (by omega) (fun _ => rfl) ?_
    | (refine ix_map2 hx (by omega) (by (try simp only [List.length_take]); omega) (fun y hy => ?_); try simp only [Int.toNat_natCast] at hy)
    | (refine ix_map (by omega) (by (try simp only [List.length_take]); omega) (fun x hx => ?_); try simp only [Int.toNat_natCast] at hx)
    | refine side_and (side_of (by first | (and_intros <;> first | exact Nat.le_of_ble_eq_true rfl | rfl | omega | (simp only [List.length_map, List.length_append, List.length_replicate, List.length_take, List.length_cons, List.length_nil, List.length_drop, List.length_set, markList_length, midL_len, mkL_length]; omega) | exact bytes_ok (Nat.le_of_ble_eq_true rfl) (by omega) (by simp only [List.length_map, List.length_append, List.length_replicate, List.length_take, List.length_cons, List.length_nil, List.length_drop, List.length_set, markList_length, midL_len, mkL_length]; omega) | exact bytes_okN (Nat.le_of_ble_eq_true rfl) (by simp only [List.length_map, List.length_append, List.length_replicate, List.length_take, List.length_cons, List.length_nil, List.length_drop, List.length_set, markList_length, midL_len, mkL_length]; omega)) | fail)) ?_
    | refine nilB_intro (fun h => ?_) ?_
    | refine side_and (side_of (show Go.Ab.structOk _ _ = true by kernel_rfl)) ?_
    | refine side_and (side_of (map_len (fun _ => rfl))) ?_
    | refine side_and (side_of (map_one (fun _ => rfl) _)) ?_
    | refine side_and ?_ ?_
    | refine LoadK_of rfl rfl ?_
    | refine LoadD_cel rfl rfl rfl rfl ?_
    | refine LoadD_of rfl ?_
    | refine StoreD_of rfl rfl rfl ?_
    | refine AppD_of rfl (by and_intros <;> first | rfl | decide) (by simp only [List.length_map, List.length_append, List.length_take, List.length_cons, List.length_nil]; first | (refine ⟨by omega, ?_⟩; refine Nat.le_trans (Nat.mul_le_mul_left _ (show _ ≤ 512 by decide)) ?_; omega) | fail) ?_
    | refine AppN_of rfl rfl (by and_intros <;> rfl) (by simp only [List.length_map, List.length_append, List.length_take, List.length_cons, List.length_nil]; first | (refine ⟨by omega, ?_⟩; refine Nat.le_trans (Nat.mul_le_mul_left _ (show _ ≤ 512 by decide)) ?_; omega) | fail) ?_
    | (show False; omega)
  all_goals
    conv => whnf
    refine OutA_plain rfl rfl ?_
    first
    | rfl
    | (simp_all [named, AV.sub, AV.sub.subL]; done)
    | (simp_all [named, AV.sub, AV.sub.subL] <;> omega)
theorem c_impl_areHomes (xs : List Int) (far : Int) (hok : okL okT xs) : PC Try.prog false 45 [.sl (xs.map intC), .int .i64 far] (.bool (okHomes xs far)) [] := by
  have hA : xs.all (fun h => inB 0 h 2) = !(xs.any fun h => !inB 0 h 2) := by rw [any_not, Bool.not_not]
  refine pc_at Try.func45 rfl (by kernel_rfl) 17 [.tmp 4] rfl rfl ?_
  repeat' (conv => whnf); first
    | refine nameB_true ?_
    | refine nameB_false ?_
    | refine nameB_yes (by assumption) ?_
    | refine nameB_no (by assumption) ?_
    | refine nameB_dyes (by assumption) ?_
    | refine nameB_dno (by assumption) ?_
    | (refine nameB_dec (fun h => ?_) (fun h => ?_) <;> try simp only [List.length_map, List.length_take, List.length_append, List.length_drop, List.length_set, markList_length, midL_len, mkL_length, Int.toNat_natCast, fact_byte] at h)
    | (refine nameB_cases (fun h => ?_) (fun h => ?_) <;> try simp only [bne_iff_ne, ne_eq, bne_eq_false_iff_eq, beq_iff_eq, beq_eq_false_iff_ne, Bool.not_eq_true', Bool.not_eq_false', Bool.or_eq_true, Bool.or_eq_false_iff, List.length_map, List.length_take, List.length_append, List.length_drop, List.length_set, markList_length, midL_len, mkL_length, Int.toNat_natCast, fact_byte] at h)
    | refine splitB_true ?_
    | refine splitB_false ?_
    | (refine splitB_intro (fun h => ?_) (fun h => ?_) <;> subst h)
    | refine draw_text (by kernel_rfl) (by kernel_rfl) (by kernel_rfl) ?_
    | refine both_intro ?_ ?_
    | refine eitherB_l ?_
    | exact True.intro
    | (show Go.Ab.CallA _ _ _ _ _ _ _; first
        | refine Call0 (c_impl_within ..) rfl rfl ?_
        | refine Call0 (c_ContainsFunc_int xs 76 [] (fun h => !inB 0 h 2) hok.1 ⟨fun _ => rfl, fun _ => rfl, fun _ => rfl, fun _ => rfl, fun _ => rfl⟩ (fun x _ => c_impl_areHomes_1 x)) rfl rfl ?_)
    | refine ix_map_at hx ?_
    | refine ix_map_at hy ?_
    | refine sl_pre (by omega) (fun _ => rfl) ?_
    | refine sl_suf (by omega) (fun _ => rfl) ?_
    | (refine ix_map2 hx (by omega) (by (try simp only [List.length_take]); omega) (fun y hy => ?_); try simp only [Int.toNat_natCast] at hy)
    | (refine ix_map (by omega) (by (try simp only [List.length_take]); omega) (fun x hx => ?_); try simp only [Int.toNat_natCast] at hx)
    | refine side_and (side_of (by first | (and_intros <;> first | exact Nat.le_of_ble_eq_true rfl | rfl | omega | (simp only [List.length_map, List.length_append, List.length_replicate, List.length_take, List.length_cons, List.length_nil, List.length_drop, List.length_set, markList_length, midL_len, mkL_length]; omega) | exact bytes_ok (Nat.le_of_ble_eq_true rfl) (by omega) (by simp only [List.length_map, List.length_append, List.length_replicate, List.length_take, List.length_cons, List.length_nil, List.length_drop, List.length_set, markList_length, midL_len, mkL_length]; omega) | exact bytes_okN (Nat.le_of_ble_eq_true rfl) (by simp only [List.length_map, List.length_append, List.length_replicate, List.length_take, List.length_cons, List.length_nil, List.length_drop, List.length_set, markList_length, midL_len, mkL_length]; omega)) | fail)) ?_
    | refine nilB_intro (fun h => ?_) ?_
    | refine side_and (side_of (show Go.Ab.structOk _ _ = true by kernel_rfl)) ?_
    | refine side_and (side_of (map_len (fun _ => rfl))) ?_
    | refine side_and (side_of (map_one (fun _ => rfl) _)) ?_
    | refine side_and ?_ ?_
    | refine LoadK_of rfl rfl ?_
    | refine LoadD_cel rfl rfl rfl rfl ?_
    | refine LoadD_of rfl ?_
    | refine StoreD_of rfl rfl rfl ?_
    | refine AppD_of rfl (by and_intros <;> first | rfl | decide) (by simp only [List.length_map, List.length_append, List.length_take, List.length_cons, List.length_nil]; first | (refine ⟨by omega, ?_⟩; refine Nat.le_trans (Nat.mul_le_mul_left _ (show _ ≤ 512 by decide)) ?_; omega) | fail) ?_
    | refine AppN_of rfl rfl (by and_intros <;> rfl) (by simp only [List.length_map, List.length_append, List.length_take, List.length_cons, List.length_nil]; first | (refine ⟨by omega, ?_⟩; refine Nat.le_trans (Nat.mul_le_mul_left _ (show _ ≤ 512 by decide)) ?_; omega) | fail) ?_
    | (show False; omega)
  all_goals
    conv => whnf
    refine OutA_plain rfl rfl ?_
    first
    | rfl
    | (simp only [okHomes, hA, *, named, AV.sub, AV.sub.subL, Bool.and_true, Bool.and_false, Bool.true_and, Bool.false_and, Bool.or_true, Bool.or_false, Bool.true_or, Bool.false_or, Bool.not_true, Bool.not_false, if_true, if_false, decide_true, decide_false, Bool.false_eq_true]; done)
    | (simp_all [okHomes, hA, named, AV.sub, AV.sub.subL]; done)
theorem c_impl_Net_isNode (w : NetT) (who : Int) : PC Try.prog false 77 [.agg w.cells, .int .i64 who] (.bool (okWho w.Homes.length who)) [] := by
  refine pc_at Try.func77 rfl (by kernel_rfl) 11 [.tmp 4] rfl rfl ?_
  repeat' (conv => whnf); first
    | refine nameB_true ?_
    | refine nameB_false ?_
    | refine nameB_yes (by assumption) ?_
    | refine nameB_no (by assumption) ?_
    | refine nameB_dyes (by assumption) ?_
    | refine nameB_dno (by assumption) ?_
    | (refine nameB_dec (fun h => ?_) (fun h => ?_) <;> try simp only [List.length_map, List.length_take, List.length_append, List.length_drop, List.length_set, markList_length, midL_len, mkL_length, Int.toNat_natCast, fact_byte] at h)
    | (refine nameB_cases (fun h => ?_) (fun h => ?_) <;> try simp only [bne_iff_ne, ne_eq, bne_eq_false_iff_eq, beq_iff_eq, beq_eq_false_iff_ne, Bool.not_eq_true', Bool.not_eq_false', Bool.or_eq_true, Bool.or_eq_false_iff, List.length_map, List.length_take, List.length_append, List.length_drop, List.length_set, markList_length, midL_len, mkL_length, Int.toNat_natCast, fact_byte] at h)
    | refine splitB_true ?_
    | refine splitB_false ?_
    | (refine splitB_intro (fun h => ?_) (fun h => ?_) <;> subst h)
    | refine draw_text (by kernel_rfl) (by kernel_rfl) (by kernel_rfl) ?_
    | refine both_intro ?_ ?_
    | refine eitherB_l ?_
    | exact True.intro
    | (show Go.Ab.CallA _ _ _ _ _ _ _; refine Call0 (c_impl_within ..) rfl rfl ?_)
    | refine ix_map_at hx ?_
    | refine ix_map_at hy ?_
    | refine sl_pre (by omega) (fun _ => rfl) ?_
    | refine sl_suf (by omega) (fun _ => rfl) ?_
    | (refine ix_map2 hx (by omega) (by (try simp only [List.length_take]); omega) (fun y hy => ?_); try simp only [Int.toNat_natCast] at hy)
    | (refine ix_map (by omega) (by (try simp only [List.length_take]); omega) (fun x hx => ?_); try simp only [Int.toNat_natCast] at hx)
    | refine side_and (side_of (by first | (and_intros <;> first | exact Nat.le_of_ble_eq_true rfl | rfl | omega | (simp only [List.length_map, List.length_append, List.length_replicate, List.length_take, List.length_cons, List.length_nil, List.length_drop, List.length_set, markList_length, midL_len, mkL_length]; omega) | exact bytes_ok (Nat.le_of_ble_eq_true rfl) (by omega) (by simp only [List.length_map, List.length_append, List.length_replicate, List.length_take, List.length_cons, List.length_nil, List.length_drop, List.length_set, markList_length, midL_len, mkL_length]; omega) | exact bytes_okN (Nat.le_of_ble_eq_true rfl) (by simp only [List.length_map, List.length_append, List.length_replicate, List.length_take, List.length_cons, List.length_nil, List.length_drop, List.length_set, markList_length, midL_len, mkL_length]; omega)) | fail)) ?_
    | refine nilB_intro (fun h => ?_) ?_
    | refine side_and (side_of (show Go.Ab.structOk _ _ = true by kernel_rfl)) ?_
    | refine side_and (side_of (map_len (fun _ => rfl))) ?_
    | refine side_and (side_of (map_one (fun _ => rfl) _)) ?_
    | refine side_and ?_ ?_
    | refine LoadK_of rfl rfl ?_
    | refine LoadD_cel rfl rfl rfl rfl ?_
    | refine LoadD_of rfl ?_
    | refine StoreD_of rfl rfl rfl ?_
    | refine AppD_of rfl (by and_intros <;> first | rfl | decide) (by simp only [List.length_map, List.length_append, List.length_take, List.length_cons, List.length_nil]; first | (refine ⟨by omega, ?_⟩; refine Nat.le_trans (Nat.mul_le_mul_left _ (show _ ≤ 512 by decide)) ?_; omega) | fail) ?_
    | refine AppN_of rfl rfl (by and_intros <;> rfl) (by simp only [List.length_map, List.length_append, List.length_take, List.length_cons, List.length_nil]; first | (refine ⟨by omega, ?_⟩; refine Nat.le_trans (Nat.mul_le_mul_left _ (show _ ≤ 512 by decide)) ?_; omega) | fail) ?_
    | (show False; omega)
  all_goals
    conv => whnf
    refine OutA_plain rfl rfl ?_
    simp_all [okWho, named, AV.sub]
theorem c_spec_l7Node (w : NetT) (who : Int) : PC Try.prog false 84 [.agg w.cells, .int .i64 who] (.bool (okWho w.Homes.length who)) [] := by
  refine pc_at Try.func84 rfl (by kernel_rfl) 11 [.tmp 4] rfl rfl ?_
  repeat' (conv => whnf); first
    | refine nameB_true ?_
    | refine nameB_false ?_
    | refine nameB_yes (by assumption) ?_
    | refine nameB_no (by assumption) ?_
    | refine nameB_dyes (by assumption) ?_
    | refine nameB_dno (by assumption) ?_
    | (refine nameB_dec (fun h => ?_) (fun h => ?_) <;> try simp only [List.length_map, List.length_take, List.length_append, List.length_drop, List.length_set, markList_length, midL_len, mkL_length, Int.toNat_natCast, fact_byte] at h)
    | (refine nameB_cases (fun h => ?_) (fun h => ?_) <;> try simp only [bne_iff_ne, ne_eq, bne_eq_false_iff_eq, beq_iff_eq, beq_eq_false_iff_ne, Bool.not_eq_true', Bool.not_eq_false', Bool.or_eq_true, Bool.or_eq_false_iff, List.length_map, List.length_take, List.length_append, List.length_drop, List.length_set, markList_length, midL_len, mkL_length, Int.toNat_natCast, fact_byte] at h)
    | refine splitB_true ?_
    | refine splitB_false ?_
    | (refine splitB_intro (fun h => ?_) (fun h => ?_) <;> subst h)
    | refine draw_text (by kernel_rfl) (by kernel_rfl) (by kernel_rfl) ?_
    | refine both_intro ?_ ?_
    | refine eitherB_l ?_
    | exact True.intro
    | (show Go.Ab.CallA _ _ _ _ _ _ _; refine Call0 (c_spec_l1In ..) rfl rfl ?_)
    | refine ix_map_at hx ?_
    | refine ix_map_at hy ?_
    | refine sl_pre (by omega) (fun _ => rfl) ?_
    | refine sl_suf (by omega) (fun _ => rfl) ?_
    | (refine ix_map2 hx (by omega) (by (try simp only [List.length_take]); omega) (fun y hy => ?_); try simp only [Int.toNat_natCast] at hy)
    | (refine ix_map (by omega) (by (try simp only [List.length_take]); omega) (fun x hx => ?_); try simp only [Int.toNat_natCast] at hx)
    | refine side_and (side_of (by first | (and_intros <;> first | exact Nat.le_of_ble_eq_true rfl | rfl | omega | (simp only [List.length_map, List.length_append, List.length_replicate, List.length_take, List.length_cons, List.length_nil, List.length_drop, List.length_set, markList_length, midL_len, mkL_length]; omega) | exact bytes_ok (Nat.le_of_ble_eq_true rfl) (by omega) (by simp only [List.length_map, List.length_append, List.length_replicate, List.length_take, List.length_cons, List.length_nil, List.length_drop, List.length_set, markList_length, midL_len, mkL_length]; omega) | exact bytes_okN (Nat.le_of_ble_eq_true rfl) (by simp only [List.length_map, List.length_append, List.length_replicate, List.length_take, List.length_cons, List.length_nil, List.length_drop, List.length_set, markList_length, midL_len, mkL_length]; omega)) | fail)) ?_
    | refine nilB_intro (fun h => ?_) ?_
    | refine side_and (side_of (show Go.Ab.structOk _ _ = true by kernel_rfl)) ?_
    | refine side_and (side_of (map_len (fun _ => rfl))) ?_
    | refine side_and (side_of (map_one (fun _ => rfl) _)) ?_
    | refine side_and ?_ ?_
    | refine LoadK_of rfl rfl ?_
    | refine LoadD_cel rfl rfl rfl rfl ?_
    | refine LoadD_of rfl ?_
    | refine StoreD_of rfl rfl rfl ?_
    | refine AppD_of rfl (by and_intros <;> first | rfl | decide) (by simp only [List.length_map, List.length_append, List.length_take, List.length_cons, List.length_nil]; first | (refine ⟨by omega, ?_⟩; refine Nat.le_trans (Nat.mul_le_mul_left _ (show _ ≤ 512 by decide)) ?_; omega) | fail) ?_
    | refine AppN_of rfl rfl (by and_intros <;> rfl) (by simp only [List.length_map, List.length_append, List.length_take, List.length_cons, List.length_nil]; first | (refine ⟨by omega, ?_⟩; refine Nat.le_trans (Nat.mul_le_mul_left _ (show _ ≤ 512 by decide)) ?_; omega) | fail) ?_
    | (show False; omega)
  all_goals
    conv => whnf
    refine OutA_plain rfl rfl ?_
    simp_all [okWho, named, AV.sub]
theorem c_impl_Net_isLetter (w : NetT) (l : LetterT) : PC Try.prog false 57 [.agg w.cells, .agg l.cells] (.bool (okLetter w.Homes.length l)) [] := by
  refine pc_at Try.func57 rfl (by kernel_rfl) 33 [.tmp 4] rfl rfl ?_
  repeat' (conv => whnf); first
    | refine nameB_true ?_
    | refine nameB_false ?_
    | refine nameB_yes (by assumption) ?_
    | refine nameB_no (by assumption) ?_
    | refine nameB_dyes (by assumption) ?_
    | refine nameB_dno (by assumption) ?_
    | (refine nameB_dec (fun h => ?_) (fun h => ?_) <;> try simp only [List.length_map, List.length_take, List.length_append, List.length_drop, List.length_set, markList_length, midL_len, mkL_length, Int.toNat_natCast, fact_byte] at h)
    | (refine nameB_cases (fun h => ?_) (fun h => ?_) <;> try simp only [bne_iff_ne, ne_eq, bne_eq_false_iff_eq, beq_iff_eq, beq_eq_false_iff_ne, Bool.not_eq_true', Bool.not_eq_false', Bool.or_eq_true, Bool.or_eq_false_iff, List.length_map, List.length_take, List.length_append, List.length_drop, List.length_set, markList_length, midL_len, mkL_length, Int.toNat_natCast, fact_byte] at h)
    | refine splitB_true ?_
    | refine splitB_false ?_
    | (refine splitB_intro (fun h => ?_) (fun h => ?_) <;> subst h)
    | refine draw_text (by kernel_rfl) (by kernel_rfl) (by kernel_rfl) ?_
    | refine both_intro ?_ ?_
    | refine eitherB_l ?_
    | exact True.intro
    | (show Go.Ab.CallA _ _ _ _ _ _ _; first
        | refine Call0 (c_impl_within ..) rfl rfl ?_
        | refine Call0 (c_impl_Net_isNode w _) rfl rfl ?_)
    | refine ix_map_at hx ?_
    | refine ix_map_at hy ?_
    | refine sl_pre (by omega) (fun _ => rfl) ?_
    | refine sl_suf (by omega) (fun _ => rfl) ?_
    | (refine ix_map2 hx (by omega) (by (try simp only [List.length_take]); omega) (fun y hy => ?_); try simp only [Int.toNat_natCast] at hy)
    | (refine ix_map (by omega) (by (try simp only [List.length_take]); omega) (fun x hx => ?_); try simp only [Int.toNat_natCast] at hx)
    | refine side_and (side_of (by first | (and_intros <;> first | exact Nat.le_of_ble_eq_true rfl | rfl | omega | (simp only [List.length_map, List.length_append, List.length_replicate, List.length_take, List.length_cons, List.length_nil, List.length_drop, List.length_set, markList_length, midL_len, mkL_length]; omega) | exact bytes_ok (Nat.le_of_ble_eq_true rfl) (by omega) (by simp only [List.length_map, List.length_append, List.length_replicate, List.length_take, List.length_cons, List.length_nil, List.length_drop, List.length_set, markList_length, midL_len, mkL_length]; omega) | exact bytes_okN (Nat.le_of_ble_eq_true rfl) (by simp only [List.length_map, List.length_append, List.length_replicate, List.length_take, List.length_cons, List.length_nil, List.length_drop, List.length_set, markList_length, midL_len, mkL_length]; omega)) | fail)) ?_
    | refine nilB_intro (fun h => ?_) ?_
    | refine side_and (side_of (show Go.Ab.structOk _ _ = true by kernel_rfl)) ?_
    | refine side_and (side_of (map_len (fun _ => rfl))) ?_
    | refine side_and (side_of (map_one (fun _ => rfl) _)) ?_
    | refine side_and ?_ ?_
    | refine LoadK_of rfl rfl ?_
    | refine LoadD_cel rfl rfl rfl rfl ?_
    | refine LoadD_of rfl ?_
    | refine StoreD_of rfl rfl rfl ?_
    | refine AppD_of rfl (by and_intros <;> first | rfl | decide) (by simp only [List.length_map, List.length_append, List.length_take, List.length_cons, List.length_nil]; first | (refine ⟨by omega, ?_⟩; refine Nat.le_trans (Nat.mul_le_mul_left _ (show _ ≤ 512 by decide)) ?_; omega) | fail) ?_
    | refine AppN_of rfl rfl (by and_intros <;> rfl) (by simp only [List.length_map, List.length_append, List.length_take, List.length_cons, List.length_nil]; first | (refine ⟨by omega, ?_⟩; refine Nat.le_trans (Nat.mul_le_mul_left _ (show _ ≤ 512 by decide)) ?_; omega) | fail) ?_
    | (show False; omega)
  all_goals
    conv => whnf
    refine OutA_plain rfl rfl ?_
    first
    | rfl
    | (simp only [okLetter, *, named, AV.sub, AV.sub.subL, Bool.and_true, Bool.and_false, Bool.true_and, Bool.false_and, Bool.or_true, Bool.or_false, Bool.true_or, Bool.false_or, Bool.not_true, Bool.not_false, if_true, if_false, decide_true, decide_false, Bool.false_eq_true]; done)
    | (simp_all [okLetter, named, AV.sub, AV.sub.subL]; done)
theorem c_impl_GoodNet (w : NetT) (hok : w.ok) : PC Try.prog false 25 [.agg w.cells] (.bool (okNet w)) [] := by
  have hl := hok.2.2.2.1
  refine pc_at Try.func25 rfl (by kernel_rfl) 52 [.tmp 2] rfl rfl ?_
  repeat' (conv => whnf); first
    | refine ix_as (m := k - 1) (by simp only [i64_wrap_eq]; omega) (by omega) (fun y hy => ?_)
    | refine nameB_true ?_
    | refine nameB_false ?_
    | refine nameB_yes (by assumption) ?_
    | refine nameB_no (by assumption) ?_
    | refine nameB_dyes (by assumption) ?_
    | refine nameB_dno (by assumption) ?_
    | (refine nameB_dec (fun h => ?_) (fun h => ?_) <;> try simp only [List.length_map, List.length_take, List.length_append, List.length_drop, List.length_set, markList_length, midL_len, mkL_length, Int.toNat_natCast, fact_byte] at h)
    | (refine nameB_cases (fun h => ?_) (fun h => ?_) <;> try simp only [bne_iff_ne, ne_eq, bne_eq_false_iff_eq, beq_iff_eq, beq_eq_false_iff_ne, Bool.not_eq_true', Bool.not_eq_false', Bool.or_eq_true, Bool.or_eq_false_iff, List.length_map, List.length_take, List.length_append, List.length_drop, List.length_set, markList_length, midL_len, mkL_length, Int.toNat_natCast, fact_byte] at h)
    | refine splitB_true ?_
    | refine splitB_false ?_
    | (refine splitB_intro (fun h => ?_) (fun h => ?_) <;> subst h)
    | refine draw_text (by kernel_rfl) (by kernel_rfl) (by kernel_rfl) ?_
    | refine both_intro ?_ ?_
    | refine eitherB_l ?_
    | exact True.intro
    | (show Go.Ab.Loop _ _ _; (refine Loop_at [1, 24, 25] [0] (Nat) (fun k => allPre (goodUnder w.Homes.length) (w.Under.take k) (w.Under.drop k) = allPre (goodUnder w.Homes.length) [] w.Under ∧ k ≤ w.Under.length) (fun k => [(26, .int .i64 (k : Nat))]) (fun k => []) (fun k => w.Under.length - k) 0 ⟨by first | (simp_all <;> fail) | rfl | fail, trivial⟩ trivial (by (try dsimp only); first | (exact ⟨rfl, by omega⟩) | fail) ?_; (conv => whnf); refine side_and (side_of (by first | exact fun k => rfl | exact fun k => by simp [headOk, closedE, closedO, closedL, AV.closed, hcap.closed, hasId, AObj.box, BK.ofB])) ?_; rintro k hT; try dsimp only at hT))
    | (show Go.Ab.Again _ _ _ _ _ _ _ _ _ _ _; refine Again_of (k + 1) ⟨by first | rfl | exact i64_next (by omega) | (simp_all <;> fail) | fail, trivial⟩ trivial (by first | (and_intros <;> first | rfl | trivial) | fail) (by first | (and_intros <;> first | rfl | trivial) | fail) rfl rfl rfl (by (try dsimp only); first | (first | exact ⟨allPre_go hT.1 hx (gu_yes (by assumption) (by rw [lastDue_zero (by assumption)]; exact okLetter_due (by assumption))), by omega⟩ | exact ⟨allPre_go hT.1 hx (gu_yes (by assumption) (by rw [lastDue_prev (by assumption) hy]; omega)), by omega⟩) | fail) (show _ < _ by (try dsimp only); omega))
    | (show Go.Ab.CallA _ _ _ _ _ _ _; first
        | refine Call0 (c_impl_isTrue ..) rfl rfl ?_
        | refine Call0 (c_impl_areHomes w.Homes w.Far hok.2.1) rfl rfl ?_
        | refine Call0 (c_impl_Net_isLetter w x) rfl rfl ?_)
    | (show Go.Ab.CallD _ _ _ _ _ _ _; first
        | refine CallD0 (c_impl_isTrue ..) rfl rfl rfl ?_
        | refine CallD0 (c_impl_areHomes w.Homes w.Far hok.2.1) rfl rfl rfl ?_
        | refine CallD0 (c_impl_Net_isLetter w x) rfl rfl rfl ?_)
    | refine ix_map_at hx ?_
    | refine ix_map_at hy ?_
    | refine sl_pre (by omega) (fun _ => rfl) ?_
    | refine sl_suf (by omega) (fun _ => rfl) ?_
    | (refine ix_map2 hx (by omega) (by (try simp only [List.length_take]); omega) (fun y hy => ?_); try simp only [Int.toNat_natCast] at hy)
    | (refine ix_map (by omega) (by (try simp only [List.length_take]); omega) (fun x hx => ?_); try simp only [Int.toNat_natCast] at hx)
    | refine side_and (side_of (by first | (and_intros <;> first | exact Nat.le_of_ble_eq_true rfl | rfl | omega | (simp only [List.length_map, List.length_append, List.length_replicate, List.length_take, List.length_cons, List.length_nil, List.length_drop, List.length_set, markList_length, midL_len, mkL_length]; omega) | exact bytes_ok (Nat.le_of_ble_eq_true rfl) (by omega) (by simp only [List.length_map, List.length_append, List.length_replicate, List.length_take, List.length_cons, List.length_nil, List.length_drop, List.length_set, markList_length, midL_len, mkL_length]; omega) | exact bytes_okN (Nat.le_of_ble_eq_true rfl) (by simp only [List.length_map, List.length_append, List.length_replicate, List.length_take, List.length_cons, List.length_nil, List.length_drop, List.length_set, markList_length, midL_len, mkL_length]; omega)) | fail)) ?_
    | refine nilB_intro (fun h => ?_) ?_
    | refine side_and (side_of (show Go.Ab.structOk _ _ = true by kernel_rfl)) ?_
    | refine side_and (side_of (map_len (fun _ => rfl))) ?_
    | refine side_and (side_of (map_one (fun _ => rfl) _)) ?_
    | refine side_and ?_ ?_
    | refine LoadK_of rfl rfl ?_
    | refine LoadD_cel rfl rfl rfl rfl ?_
    | refine LoadD_of rfl ?_
    | refine StoreD_of rfl rfl rfl ?_
    | refine AppD_of rfl (by and_intros <;> first | rfl | decide) (by simp only [List.length_map, List.length_append, List.length_take, List.length_cons, List.length_nil]; first | (refine ⟨by omega, ?_⟩; refine Nat.le_trans (Nat.mul_le_mul_left _ (show _ ≤ 512 by decide)) ?_; omega) | fail) ?_
    | refine AppN_of rfl rfl (by and_intros <;> rfl) (by simp only [List.length_map, List.length_append, List.length_take, List.length_cons, List.length_nil]; first | (refine ⟨by omega, ?_⟩; refine Nat.le_trans (Nat.mul_le_mul_left _ (show _ ≤ 512 by decide)) ?_; omega) | fail) ?_
    | (show False; omega)
  all_goals
    conv => whnf
    refine OutA_plain rfl rfl ?_
    first
    | (have hb := allPre_bad hT.1 hx (gu_no1 (by assumption)); simp only [okNet, hb, Bool.and_false]; rfl)
    | (have hb := allPre_bad hT.1 hx (gu_no2 (by rw [lastDue_prev (by assumption) hy]; omega)); simp only [okNet, hb, Bool.and_false]; rfl)
    | (have hb := allPre_end hT.1 (by assumption); simp only [okNet, hb, *, decide_eq_true (show (w.Under.length : Int) ≤ 60 by omega), Bool.and_true]; rfl)
    | (simp only [okNet, *, Bool.and_false, Bool.false_and]; rfl)
    | (simp only [okNet, decide_eq_false (show ¬ (w.Under.length : Int) ≤ 60 by omega), Bool.and_false, Bool.false_and]; rfl)
theorem c_spec_l7Good (w : NetT) (hok : w.ok) : PC Try.prog false 58 [.agg w.cells] (.bool (okNet w)) [] := by
  have hl := hok.2.2.2.1
  refine pc_at Try.func58 rfl (by kernel_rfl) 82 [.tmp 2] rfl rfl ?_
  repeat' (conv => whnf); first
    | refine nameB_true ?_
    | refine nameB_false ?_
    | refine nameB_yes (by assumption) ?_
    | refine nameB_no (by assumption) ?_
    | refine nameB_dyes (by assumption) ?_
    | refine nameB_dno (by assumption) ?_
    | (refine nameB_dec (fun h => ?_) (fun h => ?_) <;> try simp only [List.length_map, List.length_take, List.length_append, List.length_drop, List.length_set, markList_length, midL_len, mkL_length, Int.toNat_natCast, fact_byte] at h)
    | (refine nameB_cases (fun h => ?_) (fun h => ?_) <;> try simp only [bne_iff_ne, ne_eq, bne_eq_false_iff_eq, beq_iff_eq, beq_eq_false_iff_ne, Bool.not_eq_true', Bool.not_eq_false', Bool.or_eq_true, Bool.or_eq_false_iff, List.length_map, List.length_take, List.length_append, List.length_drop, List.length_set, markList_length, midL_len, mkL_length, Int.toNat_natCast, fact_byte] at h)
    | refine splitB_true ?_
    | refine splitB_false ?_
    | (refine splitB_intro (fun h => ?_) (fun h => ?_) <;> subst h)
    | refine draw_text (by kernel_rfl) (by kernel_rfl) (by kernel_rfl) ?_
    | refine both_intro ?_ ?_
    | refine eitherB_l ?_
    | exact True.intro
    | (show Go.Ab.Loop _ _ _; (refine Loop_at [1] [0] (Nat × Int) (fun j => match j with | (k, m) => allPre (goodUnder w.Homes.length) (w.Under.take k) (w.Under.drop k) = allPre (goodUnder w.Homes.length) [] w.Under ∧ m = lastDue (w.Under.take k) ∧ 0 ≤ m ∧ k ≤ w.Under.length) (fun j => match j with | (k, m) => [(4, .int .i64 (k : Nat)), (3, .int .i64 m)]) (fun j => match j with | (k, m) => []) (fun j => match j with | (k, m) => w.Under.length - k) (0, 0) ⟨by first | (simp_all <;> fail) | rfl | fail, by first | rfl | (simp_all <;> fail) | fail, trivial⟩ trivial (by (try dsimp only); first | (exact ⟨rfl, rfl, by omega, by omega⟩) | fail) ?_; (conv => whnf); refine side_and (side_of (by first | exact fun ⟨k, m⟩ => rfl | exact fun ⟨k, m⟩ => by simp [headOk, closedE, closedO, closedL, AV.closed, hcap.closed, hasId, AObj.box, BK.ofB])) ?_; rintro ⟨k, m⟩ hT; try dsimp only at hT))
    | (show Go.Ab.Again _ _ _ _ _ _ _ _ _ _ _; refine Again_of (k + 1, _) ⟨by first | rfl | exact i64_next (by omega) | (simp_all <;> fail) | fail, rfl, trivial⟩ trivial (by first | (and_intros <;> first | rfl | trivial) | fail) (by first | (and_intros <;> first | rfl | trivial) | fail) rfl rfl rfl (by (try dsimp only); first | ((have hd := inB_le (show inB m x.Due 100200 = true by assumption); refine ⟨allPre_go hT.1 hx (gu_yes ?_ (by omega)), (lastDue_next hx).symm, by omega, by omega⟩; have h5 : inB 0 x.Due 100200 = true := (by simp only [inB, Bool.and_eq_true, decide_eq_true_eq]; omega); simp only [okLetter, *, decide_false, Bool.not_false, Bool.and_true])) | fail) (show _ < _ by (try dsimp only); omega))
    | (show Go.Ab.CallA _ _ _ _ _ _ _; first
        | refine Call0 (c_spec_l1In ..) rfl rfl ?_
        | refine Call0 (c_spec_l1All w.Homes 0 2 hok.2.1.1) rfl rfl ?_
        | refine Call0 (c_spec_l7Node w _) rfl rfl ?_)
    | refine ix_map_at hx ?_
    | refine ix_map_at hy ?_
    | refine sl_pre (by omega) (fun _ => rfl) ?_
    | refine sl_suf (by omega) (fun _ => rfl) ?_
    | (refine ix_map2 hx (by omega) (by (try simp only [List.length_take]); omega) (fun y hy => ?_); try simp only [Int.toNat_natCast] at hy)
    | (refine ix_map (by omega) (by (try simp only [List.length_take]); omega) (fun x hx => ?_); try simp only [Int.toNat_natCast] at hx)
    | refine side_and (side_of (by first | (and_intros <;> first | exact Nat.le_of_ble_eq_true rfl | rfl | omega | (simp only [List.length_map, List.length_append, List.length_replicate, List.length_take, List.length_cons, List.length_nil, List.length_drop, List.length_set, markList_length, midL_len, mkL_length]; omega) | exact bytes_ok (Nat.le_of_ble_eq_true rfl) (by omega) (by simp only [List.length_map, List.length_append, List.length_replicate, List.length_take, List.length_cons, List.length_nil, List.length_drop, List.length_set, markList_length, midL_len, mkL_length]; omega) | exact bytes_okN (Nat.le_of_ble_eq_true rfl) (by simp only [List.length_map, List.length_append, List.length_replicate, List.length_take, List.length_cons, List.length_nil, List.length_drop, List.length_set, markList_length, midL_len, mkL_length]; omega)) | fail)) ?_
    | refine nilB_intro (fun h => ?_) ?_
    | refine side_and (side_of (show Go.Ab.structOk _ _ = true by kernel_rfl)) ?_
    | refine side_and (side_of (map_len (fun _ => rfl))) ?_
    | refine side_and (side_of (map_one (fun _ => rfl) _)) ?_
    | refine side_and ?_ ?_
    | refine LoadK_of rfl rfl ?_
    | refine LoadD_cel rfl rfl rfl rfl ?_
    | refine LoadD_of rfl ?_
    | refine StoreD_of rfl rfl rfl ?_
    | refine AppD_of rfl (by and_intros <;> first | rfl | decide) (by simp only [List.length_map, List.length_append, List.length_take, List.length_cons, List.length_nil]; first | (refine ⟨by omega, ?_⟩; refine Nat.le_trans (Nat.mul_le_mul_left _ (show _ ≤ 512 by decide)) ?_; omega) | fail) ?_
    | refine AppN_of rfl rfl (by and_intros <;> rfl) (by simp only [List.length_map, List.length_append, List.length_take, List.length_cons, List.length_nil]; first | (refine ⟨by omega, ?_⟩; refine Nat.le_trans (Nat.mul_le_mul_left _ (show _ ≤ 512 by decide)) ?_; omega) | fail) ?_
    | (show False; omega)
  all_goals
    conv => whnf
    refine OutA_plain rfl rfl ?_
    first
    | (have hb := allPre_bad hT.1 hx (gu_no1 (by first | (simp only [okLetter, *, decide_true, Bool.not_true, Bool.and_false, Bool.false_and] <;> fail) | fail)); simp only [okNet, hb, Bool.and_false]; rfl)
    | (have hb := allPre_bad hT.1 hx (gu_no3 (by rw [← hT.2.1]; assumption) (by omega)); simp only [okNet, hb, Bool.and_false]; rfl)
    | (have hb := allPre_end hT.1 (by assumption); simp only [okNet, okHomes, hb, *, decide_eq_true (show (w.Under.length : Int) ≤ 60 by omega), Bool.and_true]; rfl)
    | (simp only [okNet, okHomes, *, Bool.and_false, Bool.false_and]; rfl)
    | (simp only [okNet, decide_eq_false (show ¬ (w.Under.length : Int) ≤ 60 by omega), Bool.and_false, Bool.false_and]; rfl)
theorem c_spec_GoodNet (w : NetT) (hok : w.ok) : PC Try.prog false 26 [.agg w.cells] (.bool (okNet w)) [] := by
  refine pc_at Try.func26 rfl (by kernel_rfl) 5 [.tmp 2] rfl rfl ?_
  repeat' (conv => whnf); first
    | refine nameB_true ?_
    | refine nameB_false ?_
    | refine nameB_yes (by assumption) ?_
    | refine nameB_no (by assumption) ?_
    | refine nameB_dyes (by assumption) ?_
    | refine nameB_dno (by assumption) ?_
    | (refine nameB_dec (fun h => ?_) (fun h => ?_) <;> try simp only [List.length_map, List.length_take, List.length_append, List.length_drop, List.length_set, markList_length, midL_len, mkL_length, Int.toNat_natCast, fact_byte] at h)
    | (refine nameB_cases (fun h => ?_) (fun h => ?_) <;> try simp only [bne_iff_ne, ne_eq, bne_eq_false_iff_eq, beq_iff_eq, beq_eq_false_iff_ne, Bool.not_eq_true', Bool.not_eq_false', Bool.or_eq_true, Bool.or_eq_false_iff, List.length_map, List.length_take, List.length_append, List.length_drop, List.length_set, markList_length, midL_len, mkL_length, Int.toNat_natCast, fact_byte] at h)
    | refine splitB_true ?_
    | refine splitB_false ?_
    | (refine splitB_intro (fun h => ?_) (fun h => ?_) <;> subst h)
    | refine draw_text (by kernel_rfl) (by kernel_rfl) (by kernel_rfl) ?_
    | refine both_intro ?_ ?_
    | refine eitherB_l ?_
    | exact True.intro
    | (show Go.Ab.CallA _ _ _ _ _ _ _; refine Call0 (c_spec_l7Good w hok) rfl rfl ?_)
    | refine ix_map_at hx ?_
    | refine ix_map_at hy ?_
    | refine sl_pre (by omega) (fun _ => rfl) ?_
    | refine sl_suf (by omega) (fun _ => rfl) ?_
    | (refine ix_map2 hx (by omega) (by (try simp only [List.length_take]); omega) (fun y hy => ?_); try simp only [Int.toNat_natCast] at hy)
    | (refine ix_map (by omega) (by (try simp only [List.length_take]); omega) (fun x hx => ?_); try simp only [Int.toNat_natCast] at hx)
    | refine side_and (side_of (by first | (and_intros <;> first | exact Nat.le_of_ble_eq_true rfl | rfl | omega | (simp only [List.length_map, List.length_append, List.length_replicate, List.length_take, List.length_cons, List.length_nil, List.length_drop, List.length_set, markList_length, midL_len, mkL_length]; omega) | exact bytes_ok (Nat.le_of_ble_eq_true rfl) (by omega) (by simp only [List.length_map, List.length_append, List.length_replicate, List.length_take, List.length_cons, List.length_nil, List.length_drop, List.length_set, markList_length, midL_len, mkL_length]; omega) | exact bytes_okN (Nat.le_of_ble_eq_true rfl) (by simp only [List.length_map, List.length_append, List.length_replicate, List.length_take, List.length_cons, List.length_nil, List.length_drop, List.length_set, markList_length, midL_len, mkL_length]; omega)) | fail)) ?_
    | refine nilB_intro (fun h => ?_) ?_
    | refine side_and (side_of (show Go.Ab.structOk _ _ = true by kernel_rfl)) ?_
    | refine side_and (side_of (map_len (fun _ => rfl))) ?_
    | refine side_and (side_of (map_one (fun _ => rfl) _)) ?_
    | refine side_and ?_ ?_
    | refine LoadK_of rfl rfl ?_
    | refine LoadD_cel rfl rfl rfl rfl ?_
    | refine LoadD_of rfl ?_
    | refine StoreD_of rfl rfl rfl ?_
    | refine AppD_of rfl (by and_intros <;> first | rfl | decide) (by simp only [List.length_map, List.length_append, List.length_take, List.length_cons, List.length_nil]; first | (refine ⟨by omega, ?_⟩; refine Nat.le_trans (Nat.mul_le_mul_left _ (show _ ≤ 512 by decide)) ?_; omega) | fail) ?_
    | refine AppN_of rfl rfl (by and_intros <;> rfl) (by simp only [List.length_map, List.length_append, List.length_take, List.length_cons, List.length_nil]; first | (refine ⟨by omega, ?_⟩; refine Nat.le_trans (Nat.mul_le_mul_left _ (show _ ≤ 512 by decide)) ?_; omega) | fail) ?_
    | (show False; omega)
  all_goals
    conv => whnf
    refine OutA_plain rfl rfl ?_
    first
    | rfl
    | (simp_all [named, AV.sub, AV.sub.subL]; done)
    | (simp_all [named, AV.sub, AV.sub.subL] <;> omega)
def homeOf (w : NetT) (a : Int) : Int := (w.Homes[a.toNat]?).getD 0
def tripN (w : NetT) (a b : Int) : Int := 1 + w.Far * mx (homeOf w a - homeOf w b) (homeOf w b - homeOf w a)
theorem okNet_of {w : NetT} (h : okNet w = true) : (∀ x ∈ w.Homes, 0 ≤ x ∧ x ≤ 2) ∧ 0 ≤ w.Far ∧ w.Far ≤ 20 := by
  simp only [okNet, okHomes, Bool.and_eq_true, List.all_eq_true] at h
  exact ⟨fun x hx => inB_le (h.1.1.2.1.2 x hx), inB_le h.1.1.2.2⟩
theorem trip_wrap {f x y m : Int} (hf : 0 ≤ f ∧ f ≤ 20) (hx : 0 ≤ x ∧ x ≤ 2) (hy : 0 ≤ y ∧ y ≤ 2) (hm : m = mx (IntKind.i64.wrap (x - y)) (IntKind.i64.wrap (0 - IntKind.i64.wrap (x - y)))) : IntKind.i64.wrap (1 + IntKind.i64.wrap (f * m)) = 1 + f * mx (x - y) (y - x) := by
  have e1 : IntKind.i64.wrap (x - y) = x - y := i64_wrap (by omega) (by omega)
  have e2 : IntKind.i64.wrap (0 - (x - y)) = y - x := by rw [i64_wrap (by omega) (by omega)]; omega
  rw [e1, e2] at hm
  have hb : 0 ≤ mx (x - y) (y - x) ∧ mx (x - y) (y - x) ≤ 2 := by unfold mx; split <;> omega
  rw [← hm] at hb ⊢
  have h1 : f * m ≤ 20 * 2 := Int.mul_le_mul hf.2 hb.2 hb.1 (by omega)
  have h0 : 0 ≤ f * m := Int.mul_nonneg hf.1 hb.1
  rw [i64_wrap (e := f * m) (by omega) (by omega), i64_wrap (by omega) (by omega)]
theorem c_impl_Net_trip (w : NetT) (a b : Int) (hg : okNet w = true) (ha : 0 ≤ a ∧ a < w.Homes.length) (hb : 0 ≤ b ∧ b < w.Homes.length) : PC Try.prog false 78 [.agg w.cells, .int .i64 a, .int .i64 b] (.int .i64 (tripN w a b)) [] := by
  have ho := okNet_of hg
  refine pc_at Try.func78 rfl (by kernel_rfl) 27 [.tmp 6] rfl rfl ?_
  repeat' (conv => whnf); first
    | refine nameB_true ?_
    | refine nameB_false ?_
    | refine nameB_yes (by assumption) ?_
    | refine nameB_no (by assumption) ?_
    | refine nameB_dyes (by assumption) ?_
    | refine nameB_dno (by assumption) ?_
    | (refine nameB_dec (fun h => ?_) (fun h => ?_) <;> try simp only [List.length_map, List.length_take, List.length_append, List.length_drop, List.length_set, markList_length, midL_len, mkL_length, Int.toNat_natCast, fact_byte] at h)
    | (refine nameB_cases (fun h => ?_) (fun h => ?_) <;> try simp only [bne_iff_ne, ne_eq, bne_eq_false_iff_eq, beq_iff_eq, beq_eq_false_iff_ne, Bool.not_eq_true', Bool.not_eq_false', Bool.or_eq_true, Bool.or_eq_false_iff, List.length_map, List.length_take, List.length_append, List.length_drop, List.length_set, markList_length, midL_len, mkL_length, Int.toNat_natCast, fact_byte] at h)
    | refine splitB_true ?_
    | refine splitB_false ?_
    | (refine splitB_intro (fun h => ?_) (fun h => ?_) <;> subst h)
    | refine draw_text (by kernel_rfl) (by kernel_rfl) (by kernel_rfl) ?_
    | refine both_intro ?_ ?_
    | refine eitherB_l ?_
    | exact True.intro
    | refine ix_map_at hx ?_
    | refine ix_map_at hy ?_
    | refine sl_pre (by omega) (fun _ => rfl) ?_
    | refine sl_suf (by omega) (fun _ => rfl) ?_
    | (refine ix_map2 hx (by omega) (by (try simp only [List.length_take]); omega) (fun y hy => ?_); try simp only [Int.toNat_natCast] at hy)
    | (refine ix_map (by omega) (by (try simp only [List.length_take]); omega) (fun x hx => ?_); try simp only [Int.toNat_natCast] at hx)
    | refine side_and (side_of (by first | (and_intros <;> first | exact Nat.le_of_ble_eq_true rfl | rfl | omega | (simp only [List.length_map, List.length_append, List.length_replicate, List.length_take, List.length_cons, List.length_nil, List.length_drop, List.length_set, markList_length, midL_len, mkL_length]; omega) | exact bytes_ok (Nat.le_of_ble_eq_true rfl) (by omega) (by simp only [List.length_map, List.length_append, List.length_replicate, List.length_take, List.length_cons, List.length_nil, List.length_drop, List.length_set, markList_length, midL_len, mkL_length]; omega) | exact bytes_okN (Nat.le_of_ble_eq_true rfl) (by simp only [List.length_map, List.length_append, List.length_replicate, List.length_take, List.length_cons, List.length_nil, List.length_drop, List.length_set, markList_length, midL_len, mkL_length]; omega)) | fail)) ?_
    | refine nilB_intro (fun h => ?_) ?_
    | refine side_and (side_of (show Go.Ab.structOk _ _ = true by kernel_rfl)) ?_
    | refine side_and (side_of (map_len (fun _ => rfl))) ?_
    | refine side_and (side_of (map_one (fun _ => rfl) _)) ?_
    | refine side_and ?_ ?_
    | refine LoadK_of rfl rfl ?_
    | refine LoadD_cel rfl rfl rfl rfl ?_
    | refine LoadD_of rfl ?_
    | refine StoreD_of rfl rfl rfl ?_
    | refine AppD_of rfl (by and_intros <;> first | rfl | decide) (by simp only [List.length_map, List.length_append, List.length_take, List.length_cons, List.length_nil]; first | (refine ⟨by omega, ?_⟩; refine Nat.le_trans (Nat.mul_le_mul_left _ (show _ ≤ 512 by decide)) ?_; omega) | fail) ?_
    | refine AppN_of rfl rfl (by and_intros <;> rfl) (by simp only [List.length_map, List.length_append, List.length_take, List.length_cons, List.length_nil]; first | (refine ⟨by omega, ?_⟩; refine Nat.le_trans (Nat.mul_le_mul_left _ (show _ ≤ 512 by decide)) ?_; omega) | fail) ?_
    | (show False; omega)
  all_goals
    conv => whnf
    refine OutA_plain rfl rfl ?_
    refine congrArg (AV.int .i64) ?_
    have h1 : homeOf w a = x := by unfold homeOf; rw [hx]; rfl
    have h2 : homeOf w b = y := by unfold homeOf; rw [hy]; rfl
    unfold tripN
    rw [h1, h2]
    exact trip_wrap ho.2 (ho.1 x (List.mem_of_getElem? hx)) (ho.1 y (List.mem_of_getElem? hy)) rfl
def okTrip (w : NetT) (a b : Int) : Bool := okNet w && okWho w.Homes.length a && okWho w.Homes.length b
end Go.Proofs.Ytkalobhgonaibaa
