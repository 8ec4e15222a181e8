/-
  What the functions on networks give that FnLost calls.
  No condition.
-/
import Derived.Test.YtkalobhgonaibaaLost1
namespace Go.Proofs.Ytkalobhgonaibaa
open Go.Ab
set_option linter.unusedSimpArgs false
set_option maxRecDepth 20000
set_option maxHeartbeats 4000000
set_option linter.unusedVariables false

theorem pc_bool {P : Program} {sh : Bool} {f : Nat} {args : List AV} {b c : Bool} {os : List AObj} (h : PC P sh f args (.bool b) os) (e : b = c) : PC P sh f args (.bool c) os := e ▸ h
def aft (d : Int) (x : LetterT) : Bool := decide (x.Due > d)
def posL (d : Int) (xs : List LetterT) : Nat := if idxF (aft d) 0 xs < 0 then xs.length else (idxF (aft d) 0 xs).toNat
def laidL (xs : List LetterT) (l : LetterT) : List LetterT := insL xs (posL l.Due xs) l
theorem posL_le (d : Int) (xs : List LetterT) : posL d xs ≤ xs.length := by
  unfold posL
  rcases idxF_bound (aft d) xs with h | h
  · rw [if_pos (by omega)]; exact Nat.le_refl _
  · rw [if_neg (by omega)]; omega
theorem posL_int {d : Int} {xs : List LetterT} (h : ¬ idxF (aft d) 0 xs < 0) : idxF (aft d) 0 xs = ((posL d xs : Nat) : Int) := by
  unfold posL
  rw [if_neg h]
  omega
theorem posL_end {d : Int} {xs : List LetterT} (h : idxF (aft d) 0 xs < 0) : posL d xs = xs.length := by
  unfold posL
  rw [if_pos h]
theorem c_impl_laid_1 (l y : LetterT) : PC Try.prog false 80 [.agg y.cells, .rp l.cells] (.bool (aft l.Due y)) [] := by
  refine pc_at Try.func80 rfl (by kernel_rfl) 9 [.tmp 3] rfl rfl ?_
  repeat' (conv => whnf); first
    | refine nameB_true ?_
    | refine nameB_false ?_
    | refine nameB_yes (by assumption) ?_
    | refine nameB_no (by assumption) ?_
    | refine nameB_dyes (by assumption) ?_
    | refine nameB_dno (by assumption) ?_
    | (refine nameB_dec (fun h => ?_) (fun h => ?_) <;> try simp only [List.length_map, List.length_take, List.length_append, List.length_drop, List.length_set, markList_length, midL_len, mkL_length, Int.toNat_natCast, fact_byte] at h)
    | (refine nameB_cases (fun h => ?_) (fun h => ?_) <;> try simp only [bne_iff_ne, ne_eq, bne_eq_false_iff_eq, beq_iff_eq, beq_eq_false_iff_ne, Bool.not_eq_true', Bool.not_eq_false', Bool.or_eq_true, Bool.or_eq_false_iff, List.length_map, List.length_take, List.length_append, List.length_drop, List.length_set, markList_length, midL_len, mkL_length, Int.toNat_natCast, fact_byte] at h)
    | refine splitB_true ?_
    | refine splitB_false ?_
    | (refine splitB_intro (fun h => ?_) (fun h => ?_) <;> subst h)
    | refine draw_text (by kernel_rfl) (by kernel_rfl) (by kernel_rfl) ?_
    | refine both_intro ?_ ?_
    | refine eitherB_l ?_
    | exact True.intro
    | refine ix_map_at hx ?_
    | refine ix_map_at hy ?_
    | refine sl_pre (by omega) (fun _ => rfl) ?_
    | refine sl_suf (by omega) (fun _ => rfl) ?_
    | (refine ix_map2 hx (by omega) (by (try simp only [List.length_take]); omega) (fun y hy => ?_); try simp only [Int.toNat_natCast] at hy)
    | (refine ix_map (by omega) (by (try simp only [List.length_take]); omega) (fun x hx => ?_); try simp only [Int.toNat_natCast] at hx)
    | refine side_and (side_of (by first | (and_intros <;> first | exact Nat.le_of_ble_eq_true rfl | rfl | omega | (simp only [List.length_map, List.length_append, List.length_replicate, List.length_take, List.length_cons, List.length_nil, List.length_drop, List.length_set, markList_length, midL_len, mkL_length]; omega) | exact bytes_ok (Nat.le_of_ble_eq_true rfl) (by omega) (by simp only [List.length_map, List.length_append, List.length_replicate, List.length_take, List.length_cons, List.length_nil, List.length_drop, List.length_set, markList_length, midL_len, mkL_length]; omega) | exact bytes_okN (Nat.le_of_ble_eq_true rfl) (by simp only [List.length_map, List.length_append, List.length_replicate, List.length_take, List.length_cons, List.length_nil, List.length_drop, List.length_set, markList_length, midL_len, mkL_length]; omega)) | fail)) ?_
    | refine nilB_intro (fun h => ?_) ?_
    | refine side_and (side_of (show Go.Ab.structOk _ _ = true by kernel_rfl)) ?_
    | refine side_and (side_of (map_len (fun _ => rfl))) ?_
    | refine side_and (side_of (map_one (fun _ => rfl) _)) ?_
    | refine side_and ?_ ?_
    | refine LoadK_of rfl rfl ?_
    | refine LoadD_cel rfl rfl rfl rfl ?_
    | refine LoadD_of rfl ?_
    | refine StoreD_of rfl rfl rfl ?_
    | refine AppD_of rfl (by and_intros <;> first | rfl | decide) (by simp only [List.length_map, List.length_append, List.length_take, List.length_cons, List.length_nil]; first | (refine ⟨by omega, ?_⟩; refine Nat.le_trans (Nat.mul_le_mul_left _ (show _ ≤ 512 by decide)) ?_; omega) | fail) ?_
    | refine AppN_of rfl rfl (by and_intros <;> rfl) (by simp only [List.length_map, List.length_append, List.length_take, List.length_cons, List.length_nil]; first | (refine ⟨by omega, ?_⟩; refine Nat.le_trans (Nat.mul_le_mul_left _ (show _ ≤ 512 by decide)) ?_; omega) | fail) ?_
    | (show False; omega)
  all_goals
    conv => whnf
    refine OutA_plain rfl rfl ?_
    first
    | rfl
    | (simp_all [aft, named, AV.sub, AV.sub.subL]; done)
    | (simp_all [aft, named, AV.sub, AV.sub.subL] <;> omega)
theorem c_impl_delivered_1 (w : NetT) (y : LetterT) : PC Try.prog false 82 [.agg y.cells, .rp w.cells] (.bool (aft w.Now y)) [] := by
  refine pc_at Try.func82 rfl (by kernel_rfl) 9 [.tmp 3] rfl rfl ?_
  repeat' (conv => whnf); first
    | refine nameB_true ?_
    | refine nameB_false ?_
    | refine nameB_yes (by assumption) ?_
    | refine nameB_no (by assumption) ?_
    | refine nameB_dyes (by assumption) ?_
    | refine nameB_dno (by assumption) ?_
    | (refine nameB_dec (fun h => ?_) (fun h => ?_) <;> try simp only [List.length_map, List.length_take, List.length_append, List.length_drop, List.length_set, markList_length, midL_len, mkL_length, Int.toNat_natCast, fact_byte] at h)
    | (refine nameB_cases (fun h => ?_) (fun h => ?_) <;> try simp only [bne_iff_ne, ne_eq, bne_eq_false_iff_eq, beq_iff_eq, beq_eq_false_iff_ne, Bool.not_eq_true', Bool.not_eq_false', Bool.or_eq_true, Bool.or_eq_false_iff, List.length_map, List.length_take, List.length_append, List.length_drop, List.length_set, markList_length, midL_len, mkL_length, Int.toNat_natCast, fact_byte] at h)
    | refine splitB_true ?_
    | refine splitB_false ?_
    | (refine splitB_intro (fun h => ?_) (fun h => ?_) <;> subst h)
    | refine draw_text (by kernel_rfl) (by kernel_rfl) (by kernel_rfl) ?_
    | refine both_intro ?_ ?_
    | refine eitherB_l ?_
    | exact True.intro
    | refine ix_map_at hx ?_
    | refine ix_map_at hy ?_
    | refine sl_pre (by omega) (fun _ => rfl) ?_
    | refine sl_suf (by omega) (fun _ => rfl) ?_
    | (refine ix_map2 hx (by omega) (by (try simp only [List.length_take]); omega) (fun y hy => ?_); try simp only [Int.toNat_natCast] at hy)
    | (refine ix_map (by omega) (by (try simp only [List.length_take]); omega) (fun x hx => ?_); try simp only [Int.toNat_natCast] at hx)
    | refine side_and (side_of (by first | (and_intros <;> first | exact Nat.le_of_ble_eq_true rfl | rfl | omega | (simp only [List.length_map, List.length_append, List.length_replicate, List.length_take, List.length_cons, List.length_nil, List.length_drop, List.length_set, markList_length, midL_len, mkL_length]; omega) | exact bytes_ok (Nat.le_of_ble_eq_true rfl) (by omega) (by simp only [List.length_map, List.length_append, List.length_replicate, List.length_take, List.length_cons, List.length_nil, List.length_drop, List.length_set, markList_length, midL_len, mkL_length]; omega) | exact bytes_okN (Nat.le_of_ble_eq_true rfl) (by simp only [List.length_map, List.length_append, List.length_replicate, List.length_take, List.length_cons, List.length_nil, List.length_drop, List.length_set, markList_length, midL_len, mkL_length]; omega)) | fail)) ?_
    | refine nilB_intro (fun h => ?_) ?_
    | refine side_and (side_of (show Go.Ab.structOk _ _ = true by kernel_rfl)) ?_
    | refine side_and (side_of (map_len (fun _ => rfl))) ?_
    | refine side_and (side_of (map_one (fun _ => rfl) _)) ?_
    | refine side_and ?_ ?_
    | refine LoadK_of rfl rfl ?_
    | refine LoadD_cel rfl rfl rfl rfl ?_
    | refine LoadD_of rfl ?_
    | refine StoreD_of rfl rfl rfl ?_
    | refine AppD_of rfl (by and_intros <;> first | rfl | decide) (by simp only [List.length_map, List.length_append, List.length_take, List.length_cons, List.length_nil]; first | (refine ⟨by omega, ?_⟩; refine Nat.le_trans (Nat.mul_le_mul_left _ (show _ ≤ 512 by decide)) ?_; omega) | fail) ?_
    | refine AppN_of rfl rfl (by and_intros <;> rfl) (by simp only [List.length_map, List.length_append, List.length_take, List.length_cons, List.length_nil]; first | (refine ⟨by omega, ?_⟩; refine Nat.le_trans (Nat.mul_le_mul_left _ (show _ ≤ 512 by decide)) ?_; omega) | fail) ?_
    | (show False; omega)
  all_goals
    conv => whnf
    refine OutA_plain rfl rfl ?_
    first
    | rfl
    | (simp_all [aft, named, AV.sub, AV.sub.subL]; done)
    | (simp_all [aft, named, AV.sub, AV.sub.subL] <;> omega)
theorem c_impl_laid (xs : List LetterT) (l : LetterT) (hl : xs.length ≤ 1048576) : PC Try.prog false 52 [.sl (xs.map LetterT.cells), .agg l.cells] (.own 0) [⟨false, 79, 4, (laidL xs l).map LetterT.cells⟩] := by
  have hbd := idxF_bound (aft l.Due) xs
  refine pc_at Try.func52 rfl (by kernel_rfl) 19 [.tmp 4] rfl rfl ?_
  repeat' (conv => whnf); first
    | (show Go.Ab.drawA _ _ _ _ _; refine draw_exp (.take 0 (.take 2 (.fork 1 (.fork 3 (.fork 4 (.fork 5 (.take 6 (.done)) (.stop)) (.stop)) (.stop)) (.fork 3 (.fork 1 (.fork 4 (.fork 5 (.take 6 (.done)) (.stop)) (.stop)) (.fork 4 (.fork 1 (.fork 5 (.take 6 (.done)) (.stop)) (.stop)) (.stop))) (.stop))))) (by kernel_rfl) (by kernel_rfl) (by kernel_rfl) ?_)
    | refine nameB_true ?_
    | refine nameB_false ?_
    | refine nameB_yes (by assumption) ?_
    | refine nameB_no (by assumption) ?_
    | refine nameB_dyes (by assumption) ?_
    | refine nameB_dno (by assumption) ?_
    | (refine nameB_dec (fun h => ?_) (fun h => ?_) <;> try simp only [List.length_map, List.length_take, List.length_append, List.length_drop, List.length_set, markList_length, midL_len, mkL_length, Int.toNat_natCast, fact_byte] at h)
    | (refine nameB_cases (fun h => ?_) (fun h => ?_) <;> try simp only [bne_iff_ne, ne_eq, bne_eq_false_iff_eq, beq_iff_eq, beq_eq_false_iff_ne, Bool.not_eq_true', Bool.not_eq_false', Bool.or_eq_true, Bool.or_eq_false_iff, List.length_map, List.length_take, List.length_append, List.length_drop, List.length_set, markList_length, midL_len, mkL_length, Int.toNat_natCast, fact_byte] at h)
    | refine splitB_true ?_
    | refine splitB_false ?_
    | (refine splitB_intro (fun h => ?_) (fun h => ?_) <;> subst h)
    | refine draw_text (by kernel_rfl) (by kernel_rfl) (by kernel_rfl) ?_
    | refine both_intro ?_ ?_
    | refine eitherB_l ?_
    | exact True.intro
    | (show Go.Ab.CallA _ _ _ _ _ _ _; first
        | refine CallF (c_Clone_Letter xs (by omega)) rfl rfl rfl (Nat.le_of_ble_eq_true rfl) ?_
        | refine Call0 (c_IndexFunc_Letter xs 80 [.rp l.cells] (aft l.Due) (by omega) ⟨fun _ => rfl, fun _ => rfl, fun _ => rfl, fun _ => rfl, fun _ => rfl⟩ (fun y _ => c_impl_laid_1 l y)) rfl rfl ?_
        | refine CallX (c_Insert_at xs l _ (posL l.Due xs) (by first | exact posL_int (by assumption) | (rw [posL_end (by assumption)]; simp)) (posL_le _ _) (by omega)) [16400, 16448] rfl ⟨rfl, rfl, trivial⟩ rfl rfl rfl ?_)
    | (show Go.Ab.CallD _ _ _ _ _ _ _; first
        | refine CallDF (c_Clone_Letter xs (by omega)) rfl rfl ⟨rfl, rfl⟩ ?_
        | refine CallD0 (c_IndexFunc_Letter xs 80 [.rp l.cells] (aft l.Due) (by omega) ⟨fun _ => rfl, fun _ => rfl, fun _ => rfl, fun _ => rfl, fun _ => rfl⟩ (fun y _ => c_impl_laid_1 l y)) rfl rfl rfl ?_)
    | refine ix_map_at hx ?_
    | refine ix_map_at hy ?_
    | refine sl_pre (by omega) (fun _ => rfl) ?_
    | refine sl_suf (by omega) (fun _ => rfl) ?_
    | (refine ix_map2 hx (by omega) (by (try simp only [List.length_take]); omega) (fun y hy => ?_); try simp only [Int.toNat_natCast] at hy)
    | (refine ix_map (by omega) (by (try simp only [List.length_take]); omega) (fun x hx => ?_); try simp only [Int.toNat_natCast] at hx)
    | refine side_and (side_of (by first | (and_intros <;> first | exact Nat.le_of_ble_eq_true rfl | rfl | omega | (simp only [List.length_map, List.length_append, List.length_replicate, List.length_take, List.length_cons, List.length_nil, List.length_drop, List.length_set, markList_length, midL_len, mkL_length]; omega) | exact bytes_ok (Nat.le_of_ble_eq_true rfl) (by omega) (by simp only [List.length_map, List.length_append, List.length_replicate, List.length_take, List.length_cons, List.length_nil, List.length_drop, List.length_set, markList_length, midL_len, mkL_length]; omega) | exact bytes_okN (Nat.le_of_ble_eq_true rfl) (by simp only [List.length_map, List.length_append, List.length_replicate, List.length_take, List.length_cons, List.length_nil, List.length_drop, List.length_set, markList_length, midL_len, mkL_length]; omega)) | fail)) ?_
    | refine nilB_intro (fun h => ?_) ?_
    | refine side_and (side_of (show Go.Ab.structOk _ _ = true by kernel_rfl)) ?_
    | refine side_and (side_of (map_len (fun _ => rfl))) ?_
    | refine side_and (side_of (map_one (fun _ => rfl) _)) ?_
    | refine side_and ?_ ?_
    | refine LoadK_of rfl rfl ?_
    | refine LoadD_cel rfl rfl rfl rfl ?_
    | refine LoadD_of rfl ?_
    | refine StoreD_of rfl rfl rfl ?_
    | refine AppD_of rfl (by and_intros <;> first | rfl | decide) (by simp only [List.length_map, List.length_append, List.length_take, List.length_cons, List.length_nil]; first | (refine ⟨by omega, ?_⟩; refine Nat.le_trans (Nat.mul_le_mul_left _ (show _ ≤ 512 by decide)) ?_; omega) | fail) ?_
    | refine AppN_of rfl rfl (by and_intros <;> rfl) (by simp only [List.length_map, List.length_append, List.length_take, List.length_cons, List.length_nil]; first | (refine ⟨by omega, ?_⟩; refine Nat.le_trans (Nat.mul_le_mul_left _ (show _ ≤ 512 by decide)) ?_; omega) | fail) ?_
    | (show False; omega)
  all_goals
    conv => whnf
    exact OutA_ids rfl rfl rfl ⟨⟨_, _, _, rfl, rfl⟩, trivial⟩ rfl (.inr (flat_one (flat_map (fun _ => rfl) _)))
def letN (w : NetT) (a b : Int) (body : List UInt8) : LetterT := ⟨a, b, IntKind.i64.wrap (w.Now + tripN w a b), body⟩
def okSent (w : NetT) (a b : Int) (body : List UInt8) : Bool := okWho w.Homes.length a && (okWho w.Homes.length b && (!decide (a = b) && (okLetter w.Homes.length (letN w a b body) && decide ((w.Under.length : Int) < 60))))
def sentN (w : NetT) (a b : Int) (body : List UInt8) : NetT := { w with Under := laidL w.Under (letN w a b body) }
def sentR (w : NetT) (a b : Int) (body : List UInt8) : NetT := resN (okSent w a b body) (sentN w a b body)
theorem resN_yes {c : Bool} {w : NetT} (h : c = true) : resN c w = w := by rw [h]; rfl
theorem resN_no {c : Bool} {w : NetT} (h : c = false) : resN c w = ⟨0, [], 0, []⟩ := by rw [h]; rfl
theorem c_sent (w : NetT) (a b : Int) (body : List UInt8) (hg : okNet w = true) (hl : w.w ≤ 1048576) : PC Try.prog true 47 [.agg w.cells, .int .i64 a, .int .i64 b, .str body] (.tup [.agg (sentR w a b body).cells, .bool (okSent w a b body)]) [] := by
  have hn := net_len hl
  refine pc_at Try.func47 rfl (by kernel_rfl) 59 [.cell 8 36, .tmp 9] rfl rfl ?_
  repeat' (conv => whnf); first
    | refine nameB_true ?_
    | refine nameB_false ?_
    | refine nameB_yes (by assumption) ?_
    | refine nameB_no (by assumption) ?_
    | refine nameB_dyes (by assumption) ?_
    | refine nameB_dno (by assumption) ?_
    | (refine nameB_dec (fun h => ?_) (fun h => ?_) <;> try simp only [List.length_map, List.length_take, List.length_append, List.length_drop, List.length_set, markList_length, midL_len, mkL_length, Int.toNat_natCast, fact_byte] at h)
    | (refine nameB_cases (fun h => ?_) (fun h => ?_) <;> try simp only [bne_iff_ne, ne_eq, bne_eq_false_iff_eq, beq_iff_eq, beq_eq_false_iff_ne, Bool.not_eq_true', Bool.not_eq_false', Bool.or_eq_true, Bool.or_eq_false_iff, List.length_map, List.length_take, List.length_append, List.length_drop, List.length_set, markList_length, midL_len, mkL_length, Int.toNat_natCast, fact_byte] at h)
    | refine splitB_true ?_
    | refine splitB_false ?_
    | (refine splitB_intro (fun h => ?_) (fun h => ?_) <;> subst h)
    | refine draw_text (by kernel_rfl) (by kernel_rfl) (by kernel_rfl) ?_
    | refine both_intro ?_ ?_
    | refine eitherB_l ?_
    | exact True.intro
    | (show Go.Ab.CallA _ _ _ _ _ _ _; first
        | refine Call0 (c_impl_Net_isNode w _) rfl rfl ?_
        | refine Call0 (c_impl_Net_trip w a b hg (okWho_lt (by assumption) (by omega)) (okWho_lt (by assumption) (by omega))) rfl rfl ?_
        | refine Call0 (c_impl_Net_isLetter w (letN w a b body)) rfl rfl ?_
        | refine CallF (c_Clone_int2 w.Homes (by omega)) rfl rfl rfl (Nat.le_of_ble_eq_true rfl) ?_
        | refine CallF (c_impl_laid w.Under (letN w a b body) (by omega)) rfl rfl rfl (Nat.le_of_ble_eq_true rfl) ?_)
    | (show Go.Ab.CallD _ _ _ _ _ _ _; first
        | refine CallD0 (c_impl_Net_isNode w _) rfl rfl rfl ?_
        | refine CallD0 (c_impl_Net_trip w a b hg (okWho_lt (by assumption) (by omega)) (okWho_lt (by assumption) (by omega))) rfl rfl rfl ?_
        | refine CallD0 (c_impl_Net_isLetter w (letN w a b body)) rfl rfl rfl ?_
        | refine CallDF (c_Clone_int2 w.Homes (by omega)) rfl rfl ⟨rfl, rfl⟩ ?_
        | refine CallDF (c_impl_laid w.Under (letN w a b body) (by omega)) rfl rfl ⟨rfl, rfl⟩ ?_)
    | refine ix_map_at hx ?_
    | refine ix_map_at hy ?_
    | refine sl_pre (by omega) (fun _ => rfl) ?_
    | refine sl_suf (by omega) (fun _ => rfl) ?_
    | (refine ix_map2 hx (by omega) (by (try simp only [List.length_take]); omega) (fun y hy => ?_); try simp only [Int.toNat_natCast] at hy)
    | (refine ix_map (by omega) (by (try simp only [List.length_take]); omega) (fun x hx => ?_); try simp only [Int.toNat_natCast] at hx)
    | refine side_and (side_of (by first | (and_intros <;> first | exact Nat.le_of_ble_eq_true rfl | rfl | omega | (simp only [List.length_map, List.length_append, List.length_replicate, List.length_take, List.length_cons, List.length_nil, List.length_drop, List.length_set, markList_length, midL_len, mkL_length]; omega) | exact bytes_ok (Nat.le_of_ble_eq_true rfl) (by omega) (by simp only [List.length_map, List.length_append, List.length_replicate, List.length_take, List.length_cons, List.length_nil, List.length_drop, List.length_set, markList_length, midL_len, mkL_length]; omega) | exact bytes_okN (Nat.le_of_ble_eq_true rfl) (by simp only [List.length_map, List.length_append, List.length_replicate, List.length_take, List.length_cons, List.length_nil, List.length_drop, List.length_set, markList_length, midL_len, mkL_length]; omega)) | fail)) ?_
    | refine nilB_intro (fun h => ?_) ?_
    | refine side_and (side_of (show Go.Ab.structOk _ _ = true by kernel_rfl)) ?_
    | refine side_and (side_of (map_len (fun _ => rfl))) ?_
    | refine side_and (side_of (map_one (fun _ => rfl) _)) ?_
    | refine side_and ?_ ?_
    | refine LoadK_of rfl rfl ?_
    | refine LoadD_cel rfl rfl rfl rfl ?_
    | refine LoadD_of rfl ?_
    | refine StoreD_of rfl rfl rfl ?_
    | refine AppD_of rfl (by and_intros <;> first | rfl | decide) (by simp only [List.length_map, List.length_append, List.length_take, List.length_cons, List.length_nil]; first | (refine ⟨by omega, ?_⟩; refine Nat.le_trans (Nat.mul_le_mul_left _ (show _ ≤ 512 by decide)) ?_; omega) | fail) ?_
    | refine AppN_of rfl rfl (by and_intros <;> rfl) (by simp only [List.length_map, List.length_append, List.length_take, List.length_cons, List.length_nil]; first | (refine ⟨by omega, ?_⟩; refine Nat.le_trans (Nat.mul_le_mul_left _ (show _ ≤ 512 by decide)) ?_; omega) | fail) ?_
    | (show False; omega)
  all_goals
    conv => whnf
    first
    | (have e : okSent w a b body = true := (by simp_all [okSent]; done); rw [sentR, resN_yes e, e]; refine OutA_frz [24608, 28720] ?_; (conv => whnf); exact OutA_plain rfl rfl rfl)
    | (have e : okSent w a b body = false := (by simp_all [okSent]; done); rw [sentR, resN_no e, e]; refine OutA_nilB 16 1 3 1 1 rfl rfl rfl (by decide) (OutA_nilB 16 2 79 4 3 rfl rfl rfl (by decide) ?_); refine OutA_frz [1, 2] ?_; (conv => whnf); exact OutA_plain rfl rfl rfl)
def okSend (w : NetT) (a b : Int) (body : List UInt8) : Bool := okNet w && okSent w a b body
theorem c_SendTo (w : NetT) (a b : Int) (body : List UInt8) (hg : okNet w = true) (hok : w.ok) (hl : w.w ≤ 1048576) : PC Try.prog true 19 [.agg w.cells, .int .i64 a, .int .i64 b, .str body] (.tup [.agg (sentR w a b body).cells, .bool (okSent w a b body)]) [] := by
  refine pc_at Try.func19 rfl (by kernel_rfl) 21 [.cell 8 36, .tmp 9] rfl rfl ?_
  repeat' (conv => whnf); first
    | refine nameB_self (b := okSent w a b body) ?_
    | refine nameB_true ?_
    | refine nameB_false ?_
    | refine nameB_yes (by assumption) ?_
    | refine nameB_no (by assumption) ?_
    | refine nameB_dyes (by assumption) ?_
    | refine nameB_dno (by assumption) ?_
    | (refine nameB_dec (fun h => ?_) (fun h => ?_) <;> try simp only [List.length_map, List.length_take, List.length_append, List.length_drop, List.length_set, markList_length, midL_len, mkL_length, Int.toNat_natCast, fact_byte] at h)
    | (refine nameB_cases (fun h => ?_) (fun h => ?_) <;> try simp only [bne_iff_ne, ne_eq, bne_eq_false_iff_eq, beq_iff_eq, beq_eq_false_iff_ne, Bool.not_eq_true', Bool.not_eq_false', Bool.or_eq_true, Bool.or_eq_false_iff, List.length_map, List.length_take, List.length_append, List.length_drop, List.length_set, markList_length, midL_len, mkL_length, Int.toNat_natCast, fact_byte] at h)
    | refine splitB_true ?_
    | refine splitB_false ?_
    | (refine splitB_intro (fun h => ?_) (fun h => ?_) <;> subst h)
    | refine draw_text (by kernel_rfl) (by kernel_rfl) (by kernel_rfl) ?_
    | refine both_intro ?_ ?_
    | refine eitherB_l ?_
    | exact True.intro
    | (show Go.Ab.CallA _ _ _ _ _ _ _; first
        | refine Call0 (pc_bool (c_impl_GoodNet w hok) hg) rfl rfl ?_
        | refine CallT (c_sent w a b body hg hl) rfl rfl rfl rfl (Nat.le_of_ble_eq_true rfl) ?_)
    | refine ix_map_at hx ?_
    | refine ix_map_at hy ?_
    | refine sl_pre (by omega) (fun _ => rfl) ?_
    | refine sl_suf (by omega) (fun _ => rfl) ?_
    | (refine ix_map2 hx (by omega) (by (try simp only [List.length_take]); omega) (fun y hy => ?_); try simp only [Int.toNat_natCast] at hy)
    | (refine ix_map (by omega) (by (try simp only [List.length_take]); omega) (fun x hx => ?_); try simp only [Int.toNat_natCast] at hx)
    | refine side_and (side_of (by first | (and_intros <;> first | exact Nat.le_of_ble_eq_true rfl | rfl | omega | (simp only [List.length_map, List.length_append, List.length_replicate, List.length_take, List.length_cons, List.length_nil, List.length_drop, List.length_set, markList_length, midL_len, mkL_length]; omega) | exact bytes_ok (Nat.le_of_ble_eq_true rfl) (by omega) (by simp only [List.length_map, List.length_append, List.length_replicate, List.length_take, List.length_cons, List.length_nil, List.length_drop, List.length_set, markList_length, midL_len, mkL_length]; omega) | exact bytes_okN (Nat.le_of_ble_eq_true rfl) (by simp only [List.length_map, List.length_append, List.length_replicate, List.length_take, List.length_cons, List.length_nil, List.length_drop, List.length_set, markList_length, midL_len, mkL_length]; omega)) | fail)) ?_
    | refine nilB_intro (fun h => ?_) ?_
    | refine side_and (side_of (show Go.Ab.structOk _ _ = true by kernel_rfl)) ?_
    | refine side_and (side_of (map_len (fun _ => rfl))) ?_
    | refine side_and (side_of (map_one (fun _ => rfl) _)) ?_
    | refine side_and ?_ ?_
    | refine LoadK_of rfl rfl ?_
    | refine LoadD_cel rfl rfl rfl rfl ?_
    | refine LoadD_of rfl ?_
    | refine StoreD_of rfl rfl rfl ?_
    | refine AppD_of rfl (by and_intros <;> first | rfl | decide) (by simp only [List.length_map, List.length_append, List.length_take, List.length_cons, List.length_nil]; first | (refine ⟨by omega, ?_⟩; refine Nat.le_trans (Nat.mul_le_mul_left _ (show _ ≤ 512 by decide)) ?_; omega) | fail) ?_
    | refine AppN_of rfl rfl (by and_intros <;> rfl) (by simp only [List.length_map, List.length_append, List.length_take, List.length_cons, List.length_nil]; first | (refine ⟨by omega, ?_⟩; refine Nat.le_trans (Nat.mul_le_mul_left _ (show _ ≤ 512 by decide)) ?_; omega) | fail) ?_
    | (show False; omega)
  all_goals
    conv => whnf
    exact OutA_plain rfl rfl rfl
def withN (w : NetT) (ls : List LetterT) : NetT := { w with Under := ls }
def withR (w : NetT) (ls : List LetterT) : NetT := resN (okNet (withN w ls)) (withN w ls)
theorem c_withUnder (w : NetT) (ls : List LetterT) (hok : (withN w ls).ok) (hl : w.w ≤ 1048576) : PC Try.prog true 49 [.agg w.cells, .sl (ls.map LetterT.cells)] (.tup [.agg (withR w ls).cells, .bool (okNet (withN w ls))]) [] := by
  refine pc_at Try.func49 rfl (by kernel_rfl) 16 [.cell 4 36, .tmp 5] rfl rfl ?_
  repeat' (conv => whnf); first
    | refine nameB_true ?_
    | refine nameB_false ?_
    | refine nameB_yes (by assumption) ?_
    | refine nameB_no (by assumption) ?_
    | refine nameB_dyes (by assumption) ?_
    | refine nameB_dno (by assumption) ?_
    | (refine nameB_dec (fun h => ?_) (fun h => ?_) <;> try simp only [List.length_map, List.length_take, List.length_append, List.length_drop, List.length_set, markList_length, midL_len, mkL_length, Int.toNat_natCast, fact_byte] at h)
    | (refine nameB_cases (fun h => ?_) (fun h => ?_) <;> try simp only [bne_iff_ne, ne_eq, bne_eq_false_iff_eq, beq_iff_eq, beq_eq_false_iff_ne, Bool.not_eq_true', Bool.not_eq_false', Bool.or_eq_true, Bool.or_eq_false_iff, List.length_map, List.length_take, List.length_append, List.length_drop, List.length_set, markList_length, midL_len, mkL_length, Int.toNat_natCast, fact_byte] at h)
    | refine splitB_true ?_
    | refine splitB_false ?_
    | (refine splitB_intro (fun h => ?_) (fun h => ?_) <;> subst h)
    | refine draw_text (by kernel_rfl) (by kernel_rfl) (by kernel_rfl) ?_
    | refine both_intro ?_ ?_
    | refine eitherB_l ?_
    | exact True.intro
    | (show Go.Ab.CallA _ _ _ _ _ _ _; first
        | refine CallF (c_impl_copyNet w hl) rfl rfl rfl (Nat.le_of_ble_eq_true rfl) ?_
        | refine Call0 (c_impl_GoodNet (withN w ls) hok) rfl rfl ?_)
    | refine ix_map_at hx ?_
    | refine ix_map_at hy ?_
    | refine sl_pre (by omega) (fun _ => rfl) ?_
    | refine sl_suf (by omega) (fun _ => rfl) ?_
    | (refine ix_map2 hx (by omega) (by (try simp only [List.length_take]); omega) (fun y hy => ?_); try simp only [Int.toNat_natCast] at hy)
    | (refine ix_map (by omega) (by (try simp only [List.length_take]); omega) (fun x hx => ?_); try simp only [Int.toNat_natCast] at hx)
    | refine side_and (side_of (by first | (and_intros <;> first | exact Nat.le_of_ble_eq_true rfl | rfl | omega | (simp only [List.length_map, List.length_append, List.length_replicate, List.length_take, List.length_cons, List.length_nil, List.length_drop, List.length_set, markList_length, midL_len, mkL_length]; omega) | exact bytes_ok (Nat.le_of_ble_eq_true rfl) (by omega) (by simp only [List.length_map, List.length_append, List.length_replicate, List.length_take, List.length_cons, List.length_nil, List.length_drop, List.length_set, markList_length, midL_len, mkL_length]; omega) | exact bytes_okN (Nat.le_of_ble_eq_true rfl) (by simp only [List.length_map, List.length_append, List.length_replicate, List.length_take, List.length_cons, List.length_nil, List.length_drop, List.length_set, markList_length, midL_len, mkL_length]; omega)) | fail)) ?_
    | refine nilB_intro (fun h => ?_) ?_
    | refine side_and (side_of (show Go.Ab.structOk _ _ = true by kernel_rfl)) ?_
    | refine side_and (side_of (map_len (fun _ => rfl))) ?_
    | refine side_and (side_of (map_one (fun _ => rfl) _)) ?_
    | refine side_and ?_ ?_
    | refine LoadK_of rfl rfl ?_
    | refine LoadD_cel rfl rfl rfl rfl ?_
    | refine LoadD_of rfl ?_
    | refine StoreD_of rfl rfl rfl ?_
    | refine AppD_of rfl (by and_intros <;> first | rfl | decide) (by simp only [List.length_map, List.length_append, List.length_take, List.length_cons, List.length_nil]; first | (refine ⟨by omega, ?_⟩; refine Nat.le_trans (Nat.mul_le_mul_left _ (show _ ≤ 512 by decide)) ?_; omega) | fail) ?_
    | refine AppN_of rfl rfl (by and_intros <;> rfl) (by simp only [List.length_map, List.length_append, List.length_take, List.length_cons, List.length_nil]; first | (refine ⟨by omega, ?_⟩; refine Nat.le_trans (Nat.mul_le_mul_left _ (show _ ≤ 512 by decide)) ?_; omega) | fail) ?_
    | (show False; omega)
  all_goals
    conv => whnf
    first
    | (have e : okNet (withN w ls) = true := (by assumption); rw [withR, resN_yes e, e]; refine OutA_frz [4112] ?_; (conv => whnf); exact OutA_plain rfl rfl rfl)
    | (have e : okNet (withN w ls) = false := (by assumption); rw [withR, resN_no e, e]; refine OutA_nilB 16 1 3 1 1 rfl rfl rfl (by decide) (OutA_nilB 16 2 79 4 3 rfl rfl rfl (by decide) ?_); refine OutA_frz [1, 2] ?_; (conv => whnf); exact OutA_plain rfl rfl rfl)
def okAt (w : NetT) (i : Int) : Bool := okNet w && inB 0 i ((w.Under.length : Int) - 1)
theorem c_isUnder (w : NetT) (i : Int) (hok : w.ok) (hl : w.w ≤ 1048576) : PC Try.prog false 48 [.agg w.cells, .int .i64 i] (.bool (okAt w i)) [] := by
  have hn := net_len hl
  have hw : IntKind.i64.wrap ((w.Under.length : Int) - 1) = (w.Under.length : Int) - 1 := i64_wrap (by omega) (by omega)
  refine pc_at Try.func48 rfl (by kernel_rfl) 15 [.tmp 4] rfl rfl ?_
  repeat' (conv => whnf); first
    | refine nameB_true ?_
    | refine nameB_false ?_
    | refine nameB_yes (by assumption) ?_
    | refine nameB_no (by assumption) ?_
    | refine nameB_dyes (by assumption) ?_
    | refine nameB_dno (by assumption) ?_
    | (refine nameB_dec (fun h => ?_) (fun h => ?_) <;> try simp only [List.length_map, List.length_take, List.length_append, List.length_drop, List.length_set, markList_length, midL_len, mkL_length, Int.toNat_natCast, fact_byte] at h)
    | (refine nameB_cases (fun h => ?_) (fun h => ?_) <;> try simp only [bne_iff_ne, ne_eq, bne_eq_false_iff_eq, beq_iff_eq, beq_eq_false_iff_ne, Bool.not_eq_true', Bool.not_eq_false', Bool.or_eq_true, Bool.or_eq_false_iff, List.length_map, List.length_take, List.length_append, List.length_drop, List.length_set, markList_length, midL_len, mkL_length, Int.toNat_natCast, fact_byte] at h)
    | refine splitB_true ?_
    | refine splitB_false ?_
    | (refine splitB_intro (fun h => ?_) (fun h => ?_) <;> subst h)
    | refine draw_text (by kernel_rfl) (by kernel_rfl) (by kernel_rfl) ?_
    | refine both_intro ?_ ?_
    | refine eitherB_l ?_
    | exact True.intro
    | (show Go.Ab.CallA _ _ _ _ _ _ _; first
        | refine Call0 (c_impl_GoodNet w hok) rfl rfl ?_
        | refine Call0 (c_impl_within ..) rfl rfl ?_)
    | refine ix_map_at hx ?_
    | refine ix_map_at hy ?_
    | refine sl_pre (by omega) (fun _ => rfl) ?_
    | refine sl_suf (by omega) (fun _ => rfl) ?_
    | (refine ix_map2 hx (by omega) (by (try simp only [List.length_take]); omega) (fun y hy => ?_); try simp only [Int.toNat_natCast] at hy)
    | (refine ix_map (by omega) (by (try simp only [List.length_take]); omega) (fun x hx => ?_); try simp only [Int.toNat_natCast] at hx)
    | refine side_and (side_of (by first | (and_intros <;> first | exact Nat.le_of_ble_eq_true rfl | rfl | omega | (simp only [List.length_map, List.length_append, List.length_replicate, List.length_take, List.length_cons, List.length_nil, List.length_drop, List.length_set, markList_length, midL_len, mkL_length]; omega) | exact bytes_ok (Nat.le_of_ble_eq_true rfl) (by omega) (by simp only [List.length_map, List.length_append, List.length_replicate, List.length_take, List.length_cons, List.length_nil, List.length_drop, List.length_set, markList_length, midL_len, mkL_length]; omega) | exact bytes_okN (Nat.le_of_ble_eq_true rfl) (by simp only [List.length_map, List.length_append, List.length_replicate, List.length_take, List.length_cons, List.length_nil, List.length_drop, List.length_set, markList_length, midL_len, mkL_length]; omega)) | fail)) ?_
    | refine nilB_intro (fun h => ?_) ?_
    | refine side_and (side_of (show Go.Ab.structOk _ _ = true by kernel_rfl)) ?_
    | refine side_and (side_of (map_len (fun _ => rfl))) ?_
    | refine side_and (side_of (map_one (fun _ => rfl) _)) ?_
    | refine side_and ?_ ?_
    | refine LoadK_of rfl rfl ?_
    | refine LoadD_cel rfl rfl rfl rfl ?_
    | refine LoadD_of rfl ?_
    | refine StoreD_of rfl rfl rfl ?_
    | refine AppD_of rfl (by and_intros <;> first | rfl | decide) (by simp only [List.length_map, List.length_append, List.length_take, List.length_cons, List.length_nil]; first | (refine ⟨by omega, ?_⟩; refine Nat.le_trans (Nat.mul_le_mul_left _ (show _ ≤ 512 by decide)) ?_; omega) | fail) ?_
    | refine AppN_of rfl rfl (by and_intros <;> rfl) (by simp only [List.length_map, List.length_append, List.length_take, List.length_cons, List.length_nil]; first | (refine ⟨by omega, ?_⟩; refine Nat.le_trans (Nat.mul_le_mul_left _ (show _ ≤ 512 by decide)) ?_; omega) | fail) ?_
    | (show False; omega)
  all_goals
    conv => whnf
    refine OutA_plain rfl rfl ?_
    simp_all [okAt, named, AV.sub]
def outL (xs : List LetterT) (i : Nat) : List LetterT := xs.take i ++ xs.drop (i + 1)
theorem under_le {w : NetT} {ls : List LetterT} {hs : List Int} (hw : (⟨w.Now, w.Homes, w.Far, ls⟩ : NetT).ok) : (withN w ls).ok := hw
theorem outL_ok {w : NetT} {i : Nat} (hok : w.ok) : (withN w (outL w.Under i)).ok := by
  refine ⟨hok.1, hok.2.1, hok.2.2.1, ?_, fun l hl => ?_⟩
  · show (outL w.Under i).length ≤ _
    unfold outL
    have := hok.2.2.2.1
    simp only [List.length_append, List.length_take, List.length_drop]
    omega
  · unfold withN outL at hl
    rcases List.mem_append.1 hl with hl | hl
    · exact hok.2.2.2.2 l (List.mem_of_mem_take hl)
    · exact hok.2.2.2.2 l (List.mem_of_mem_drop hl)
theorem insL_len {xs : List LetterT} {i : Nat} {l : LetterT} (h : i ≤ xs.length) : (insL xs i l).length = xs.length + 1 := by
  unfold insL
  simp only [List.length_append, List.length_take, List.length_drop, List.length_cons, List.length_nil]
  omega
theorem laidL_ok {w : NetT} {xs : List LetterT} {l : LetterT} (hok : w.ok) (hx : okL LetterT.ok xs) (hl : l.ok) (hxl : xs.length ≤ 1048576) : (withN w (laidL xs l)).ok := by
  refine ⟨hok.1, hok.2.1, hok.2.2.1, ?_, fun y hy => ?_⟩
  · show (laidL xs l).length ≤ _
    unfold laidL
    rw [insL_len (posL_le _ _)]
    omega
  · unfold withN laidL insL at hy
    simp only [List.mem_append, List.mem_singleton] at hy
    rcases hy with (hy | hy) | hy
    · exact hx.2 y (List.mem_of_mem_take hy)
    · rw [hy]; exact hl
    · exact hx.2 y (List.mem_of_mem_drop hy)
theorem okAt_side {w : NetT} {i : Int} (h : okAt w i = true) : 0 ≤ i ∧ i < (w.Under.length : Int) := by
  unfold okAt at h
  rw [Bool.and_eq_true] at h
  have := inB_le h.2
  omega
def loseR (w : NetT) (i : Int) : NetT := withR w (outL w.Under i.toNat)
def loseB (w : NetT) (i : Int) : Bool := okAt w i && okNet (withN w (outL w.Under i.toNat))
theorem c_LoseOne_no (w : NetT) (i : Int) (hok : w.ok) (hl : w.w ≤ 1048576) (h : okAt w i = false) : PC Try.prog true 20 [.agg w.cells, .int .i64 i] (.tup [.agg (⟨0, [], 0, []⟩ : NetT).cells, .bool false]) [] := by
  refine pc_at Try.func20 rfl (by kernel_rfl) 22 [.cell 4 36, .tmp 5] rfl rfl ?_
  repeat' (conv => whnf); first
    | refine nameB_no (b := okAt w i) h ?_
    | refine nameB_true ?_
    | refine nameB_false ?_
    | refine nameB_yes (by assumption) ?_
    | refine nameB_no (by assumption) ?_
    | refine nameB_dyes (by assumption) ?_
    | refine nameB_dno (by assumption) ?_
    | (refine nameB_dec (fun h => ?_) (fun h => ?_) <;> try simp only [List.length_map, List.length_take, List.length_append, List.length_drop, List.length_set, markList_length, midL_len, mkL_length, Int.toNat_natCast, fact_byte] at h)
    | (refine nameB_cases (fun h => ?_) (fun h => ?_) <;> try simp only [bne_iff_ne, ne_eq, bne_eq_false_iff_eq, beq_iff_eq, beq_eq_false_iff_ne, Bool.not_eq_true', Bool.not_eq_false', Bool.or_eq_true, Bool.or_eq_false_iff, List.length_map, List.length_take, List.length_append, List.length_drop, List.length_set, markList_length, midL_len, mkL_length, Int.toNat_natCast, fact_byte] at h)
    | refine splitB_true ?_
    | refine splitB_false ?_
    | (refine splitB_intro (fun h => ?_) (fun h => ?_) <;> subst h)
    | refine draw_text (by kernel_rfl) (by kernel_rfl) (by kernel_rfl) ?_
    | refine both_intro ?_ ?_
    | refine eitherB_l ?_
    | exact True.intro
    | (show Go.Ab.CallA _ _ _ _ _ _ _; refine Call0 (c_isUnder w i hok hl) rfl rfl ?_)
    | (show Go.Ab.CallD _ _ _ _ _ _ _; refine CallD0 (c_isUnder w i hok hl) rfl rfl rfl ?_)
    | refine ix_map_at hx ?_
    | refine ix_map_at hy ?_
    | refine sl_pre (by omega) (fun _ => rfl) ?_
    | refine sl_suf (by omega) (fun _ => rfl) ?_
    | (refine ix_map2 hx (by omega) (by (try simp only [List.length_take]); omega) (fun y hy => ?_); try simp only [Int.toNat_natCast] at hy)
    | (refine ix_map (by omega) (by (try simp only [List.length_take]); omega) (fun x hx => ?_); try simp only [Int.toNat_natCast] at hx)
    | refine side_and (side_of (by first | (and_intros <;> first | exact Nat.le_of_ble_eq_true rfl | rfl | omega | (simp only [List.length_map, List.length_append, List.length_replicate, List.length_take, List.length_cons, List.length_nil, List.length_drop, List.length_set, markList_length, midL_len, mkL_length]; omega) | exact bytes_ok (Nat.le_of_ble_eq_true rfl) (by omega) (by simp only [List.length_map, List.length_append, List.length_replicate, List.length_take, List.length_cons, List.length_nil, List.length_drop, List.length_set, markList_length, midL_len, mkL_length]; omega) | exact bytes_okN (Nat.le_of_ble_eq_true rfl) (by simp only [List.length_map, List.length_append, List.length_replicate, List.length_take, List.length_cons, List.length_nil, List.length_drop, List.length_set, markList_length, midL_len, mkL_length]; omega)) | fail)) ?_
    | refine nilB_intro (fun h => ?_) ?_
    | refine side_and (side_of (show Go.Ab.structOk _ _ = true by kernel_rfl)) ?_
    | refine side_and (side_of (map_len (fun _ => rfl))) ?_
    | refine side_and (side_of (map_one (fun _ => rfl) _)) ?_
    | refine side_and ?_ ?_
    | refine LoadK_of rfl rfl ?_
    | refine LoadD_cel rfl rfl rfl rfl ?_
    | refine LoadD_of rfl ?_
    | refine StoreD_of rfl rfl rfl ?_
    | refine AppD_of rfl (by and_intros <;> first | rfl | decide) (by simp only [List.length_map, List.length_append, List.length_take, List.length_cons, List.length_nil]; first | (refine ⟨by omega, ?_⟩; refine Nat.le_trans (Nat.mul_le_mul_left _ (show _ ≤ 512 by decide)) ?_; omega) | fail) ?_
    | refine AppN_of rfl rfl (by and_intros <;> rfl) (by simp only [List.length_map, List.length_append, List.length_take, List.length_cons, List.length_nil]; first | (refine ⟨by omega, ?_⟩; refine Nat.le_trans (Nat.mul_le_mul_left _ (show _ ≤ 512 by decide)) ?_; omega) | fail) ?_
    | (show False; omega)
  all_goals
    conv => whnf
    refine OutA_nilB 16 1 3 1 1 rfl rfl rfl (by decide) (OutA_nilB 16 2 79 4 3 rfl rfl rfl (by decide) ?_); refine OutA_frz [1, 2] ?_; (conv => whnf); exact OutA_plain rfl rfl rfl
theorem c_LoseOne_yes (w : NetT) (i : Int) (hok : w.ok) (hl : w.w ≤ 1048576) (h : okAt w i = true) : PC Try.prog true 20 [.agg w.cells, .int .i64 i] (.tup [.agg (loseR w i).cells, .bool (okNet (withN w (outL w.Under i.toNat)))]) [] := by
  have hn := net_len hl
  have hi := okAt_side h
  have hw1 : IntKind.i64.wrap (i + 1) = i + 1 := i64_wrap (by omega) (by omega)
  refine pc_at Try.func20 rfl (by kernel_rfl) 22 [.cell 4 36, .tmp 5] rfl rfl ?_
  repeat' (conv => whnf); first
    | (show Go.Ab.drawA _ _ _ _ _; refine draw_exp (.take 1 (.take 4 (.take 5 (.take 6 (.fork 0 (.fork 2 (.fork 3 (.fork 7 (.fork 8 (.fork 9 (.fork 10 (.fork 11 (.take 12 (.done)) (.stop)) (.stop)) (.fork 10 (.fork 9 (.fork 11 (.take 12 (.done)) (.stop)) (.stop)) (.stop))) (.stop)) (.stop)) (.stop)) (.stop)) (.fork 2 (.fork 0 (.fork 3 (.fork 7 (.fork 8 (.fork 9 (.fork 10 (.fork 11 (.take 12 (.done)) (.stop)) (.stop)) (.fork 10 (.fork 9 (.fork 11 (.take 12 (.done)) (.stop)) (.stop)) (.stop))) (.stop)) (.stop)) (.stop)) (.fork 3 (.fork 0 (.fork 7 (.fork 8 (.fork 9 (.fork 10 (.fork 11 (.take 12 (.done)) (.stop)) (.stop)) (.fork 10 (.fork 9 (.fork 11 (.take 12 (.done)) (.stop)) (.stop)) (.stop))) (.stop)) (.stop)) (.fork 7 (.fork 0 (.fork 8 (.fork 9 (.fork 10 (.fork 11 (.take 12 (.done)) (.stop)) (.stop)) (.fork 10 (.fork 9 (.fork 11 (.take 12 (.done)) (.stop)) (.stop)) (.stop))) (.stop)) (.stop)) (.stop))) (.stop))) (.stop))))))) (by kernel_rfl) (by kernel_rfl) (by kernel_rfl) ?_)
    | refine nameB_yes (b := okAt w i) h ?_
    | refine nameB_self (b := okNet (withN w (outL w.Under i.toNat))) ?_
    | refine nameB_true ?_
    | refine nameB_false ?_
    | refine nameB_yes (by assumption) ?_
    | refine nameB_no (by assumption) ?_
    | refine nameB_dyes (by assumption) ?_
    | refine nameB_dno (by assumption) ?_
    | (refine nameB_dec (fun h => ?_) (fun h => ?_) <;> try simp only [List.length_map, List.length_take, List.length_append, List.length_drop, List.length_set, markList_length, midL_len, mkL_length, Int.toNat_natCast, fact_byte] at h)
    | (refine nameB_cases (fun h => ?_) (fun h => ?_) <;> try simp only [bne_iff_ne, ne_eq, bne_eq_false_iff_eq, beq_iff_eq, beq_eq_false_iff_ne, Bool.not_eq_true', Bool.not_eq_false', Bool.or_eq_true, Bool.or_eq_false_iff, List.length_map, List.length_take, List.length_append, List.length_drop, List.length_set, markList_length, midL_len, mkL_length, Int.toNat_natCast, fact_byte] at h)
    | refine splitB_true ?_
    | refine splitB_false ?_
    | (refine splitB_intro (fun h => ?_) (fun h => ?_) <;> subst h)
    | refine draw_text (by kernel_rfl) (by kernel_rfl) (by kernel_rfl) ?_
    | refine both_intro ?_ ?_
    | refine eitherB_l ?_
    | exact True.intro
    | (show Go.Ab.CallA _ _ _ _ _ _ _; first
        | refine Call0 (c_isUnder w i hok hl) rfl rfl ?_
        | refine CallF (c_Clone_Letter w.Under (by omega)) rfl rfl rfl (Nat.le_of_ble_eq_true rfl) ?_
        | refine CallX (c_Delete_Letter w.Under i _ hi.1 hw1 hi.2 (by omega)) [12336] rfl ⟨rfl, trivial⟩ rfl rfl rfl ?_)
    | (show Go.Ab.CallD _ _ _ _ _ _ _; first
        | refine CallD0 (c_isUnder w i hok hl) rfl rfl rfl ?_
        | refine CallDF (c_Clone_Letter w.Under (by omega)) rfl rfl ⟨rfl, rfl⟩ ?_)
    | refine ix_map_at hx ?_
    | refine ix_map_at hy ?_
    | refine sl_pre (by omega) (fun _ => rfl) ?_
    | refine sl_suf (by omega) (fun _ => rfl) ?_
    | (refine ix_map2 hx (by omega) (by (try simp only [List.length_take]); omega) (fun y hy => ?_); try simp only [Int.toNat_natCast] at hy)
    | (refine ix_map (by omega) (by (try simp only [List.length_take]); omega) (fun x hx => ?_); try simp only [Int.toNat_natCast] at hx)
    | refine side_and (side_of (by first | (and_intros <;> first | exact Nat.le_of_ble_eq_true rfl | rfl | omega | (simp only [List.length_map, List.length_append, List.length_replicate, List.length_take, List.length_cons, List.length_nil, List.length_drop, List.length_set, markList_length, midL_len, mkL_length]; omega) | exact bytes_ok (Nat.le_of_ble_eq_true rfl) (by omega) (by simp only [List.length_map, List.length_append, List.length_replicate, List.length_take, List.length_cons, List.length_nil, List.length_drop, List.length_set, markList_length, midL_len, mkL_length]; omega) | exact bytes_okN (Nat.le_of_ble_eq_true rfl) (by simp only [List.length_map, List.length_append, List.length_replicate, List.length_take, List.length_cons, List.length_nil, List.length_drop, List.length_set, markList_length, midL_len, mkL_length]; omega)) | fail)) ?_
    | refine nilB_intro (fun h => ?_) ?_
    | refine side_and (side_of (show Go.Ab.structOk _ _ = true by kernel_rfl)) ?_
    | refine side_and (side_of (map_len (fun _ => rfl))) ?_
    | refine side_and (side_of (map_one (fun _ => rfl) _)) ?_
    | refine side_and ?_ ?_
    | refine LoadK_of rfl rfl ?_
    | refine LoadD_cel rfl rfl rfl rfl ?_
    | refine LoadD_of rfl ?_
    | refine StoreD_of rfl rfl rfl ?_
    | refine AppD_of rfl (by and_intros <;> first | rfl | decide) (by simp only [List.length_map, List.length_append, List.length_take, List.length_cons, List.length_nil]; first | (refine ⟨by omega, ?_⟩; refine Nat.le_trans (Nat.mul_le_mul_left _ (show _ ≤ 512 by decide)) ?_; omega) | fail) ?_
    | refine AppN_of rfl rfl (by and_intros <;> rfl) (by simp only [List.length_map, List.length_append, List.length_take, List.length_cons, List.length_nil]; first | (refine ⟨by omega, ?_⟩; refine Nat.le_trans (Nat.mul_le_mul_left _ (show _ ≤ 512 by decide)) ?_; omega) | fail) ?_
    | (show Go.Ab.CallA _ _ [_, .own _] _ _ _ _; refine CallTo (c_withUnder w (outL w.Under i.toNat) (outL_ok hok) hl) rfl rfl rfl rfl ?_)
    | (show False; omega)
  all_goals
    conv => whnf
    exact OutA_plain rfl rfl rfl
def dupR (w : NetT) (y : LetterT) : NetT := withR w (laidL w.Under y)
theorem c_DoubleOne_no (w : NetT) (i : Int) (hok : w.ok) (hl : w.w ≤ 1048576) (h : okAt w i = false) : PC Try.prog true 21 [.agg w.cells, .int .i64 i] (.tup [.agg (⟨0, [], 0, []⟩ : NetT).cells, .bool false]) [] := by
  refine pc_at Try.func21 rfl (by kernel_rfl) 23 [.cell 4 36, .tmp 5] rfl rfl ?_
  repeat' (conv => whnf); first
    | refine nameB_no (b := okAt w i) h ?_
    | refine nameB_true ?_
    | refine nameB_false ?_
    | refine nameB_yes (by assumption) ?_
    | refine nameB_no (by assumption) ?_
    | refine nameB_dyes (by assumption) ?_
    | refine nameB_dno (by assumption) ?_
    | (refine nameB_dec (fun h => ?_) (fun h => ?_) <;> try simp only [List.length_map, List.length_take, List.length_append, List.length_drop, List.length_set, markList_length, midL_len, mkL_length, Int.toNat_natCast, fact_byte] at h)
    | (refine nameB_cases (fun h => ?_) (fun h => ?_) <;> try simp only [bne_iff_ne, ne_eq, bne_eq_false_iff_eq, beq_iff_eq, beq_eq_false_iff_ne, Bool.not_eq_true', Bool.not_eq_false', Bool.or_eq_true, Bool.or_eq_false_iff, List.length_map, List.length_take, List.length_append, List.length_drop, List.length_set, markList_length, midL_len, mkL_length, Int.toNat_natCast, fact_byte] at h)
    | refine splitB_true ?_
    | refine splitB_false ?_
    | (refine splitB_intro (fun h => ?_) (fun h => ?_) <;> subst h)
    | refine draw_text (by kernel_rfl) (by kernel_rfl) (by kernel_rfl) ?_
    | refine both_intro ?_ ?_
    | refine eitherB_l ?_
    | exact True.intro
    | (show Go.Ab.CallA _ _ _ _ _ _ _; refine Call0 (c_isUnder w i hok hl) rfl rfl ?_)
    | (show Go.Ab.CallD _ _ _ _ _ _ _; refine CallD0 (c_isUnder w i hok hl) rfl rfl rfl ?_)
    | refine ix_map_at hx ?_
    | refine ix_map_at hy ?_
    | refine sl_pre (by omega) (fun _ => rfl) ?_
    | refine sl_suf (by omega) (fun _ => rfl) ?_
    | (refine ix_map2 hx (by omega) (by (try simp only [List.length_take]); omega) (fun y hy => ?_); try simp only [Int.toNat_natCast] at hy)
    | (refine ix_map (by omega) (by (try simp only [List.length_take]); omega) (fun x hx => ?_); try simp only [Int.toNat_natCast] at hx)
    | refine side_and (side_of (by first | (and_intros <;> first | exact Nat.le_of_ble_eq_true rfl | rfl | omega | (simp only [List.length_map, List.length_append, List.length_replicate, List.length_take, List.length_cons, List.length_nil, List.length_drop, List.length_set, markList_length, midL_len, mkL_length]; omega) | exact bytes_ok (Nat.le_of_ble_eq_true rfl) (by omega) (by simp only [List.length_map, List.length_append, List.length_replicate, List.length_take, List.length_cons, List.length_nil, List.length_drop, List.length_set, markList_length, midL_len, mkL_length]; omega) | exact bytes_okN (Nat.le_of_ble_eq_true rfl) (by simp only [List.length_map, List.length_append, List.length_replicate, List.length_take, List.length_cons, List.length_nil, List.length_drop, List.length_set, markList_length, midL_len, mkL_length]; omega)) | fail)) ?_
    | refine nilB_intro (fun h => ?_) ?_
    | refine side_and (side_of (show Go.Ab.structOk _ _ = true by kernel_rfl)) ?_
    | refine side_and (side_of (map_len (fun _ => rfl))) ?_
    | refine side_and (side_of (map_one (fun _ => rfl) _)) ?_
    | refine side_and ?_ ?_
    | refine LoadK_of rfl rfl ?_
    | refine LoadD_cel rfl rfl rfl rfl ?_
    | refine LoadD_of rfl ?_
    | refine StoreD_of rfl rfl rfl ?_
    | refine AppD_of rfl (by and_intros <;> first | rfl | decide) (by simp only [List.length_map, List.length_append, List.length_take, List.length_cons, List.length_nil]; first | (refine ⟨by omega, ?_⟩; refine Nat.le_trans (Nat.mul_le_mul_left _ (show _ ≤ 512 by decide)) ?_; omega) | fail) ?_
    | refine AppN_of rfl rfl (by and_intros <;> rfl) (by simp only [List.length_map, List.length_append, List.length_take, List.length_cons, List.length_nil]; first | (refine ⟨by omega, ?_⟩; refine Nat.le_trans (Nat.mul_le_mul_left _ (show _ ≤ 512 by decide)) ?_; omega) | fail) ?_
    | (show False; omega)
  all_goals
    conv => whnf
    refine OutA_nilB 16 1 3 1 1 rfl rfl rfl (by decide) (OutA_nilB 16 2 79 4 3 rfl rfl rfl (by decide) ?_); refine OutA_frz [1, 2] ?_; (conv => whnf); exact OutA_plain rfl rfl rfl
theorem c_DoubleOne_yes (w : NetT) (i : Int) (y : LetterT) (hok : w.ok) (hl : w.w ≤ 1048576) (h : okAt w i = true) (hy : w.Under[i.toNat]? = some y) : PC Try.prog true 21 [.agg w.cells, .int .i64 i] (.tup [.agg (dupR w y).cells, .bool (okNet (withN w (laidL w.Under y)))]) [] := by
  have hn := net_len hl
  have hi := okAt_side h
  refine pc_at Try.func21 rfl (by kernel_rfl) 23 [.cell 4 36, .tmp 5] rfl rfl ?_
  repeat' (conv => whnf); first
    | (show Go.Ab.drawA _ _ _ _ _; refine draw_exp (.take 1 (.take 3 (.take 5 (.fork 0 (.fork 2 (.fork 4 (.fork 6 (.fork 7 (.fork 8 (.fork 9 (.fork 10 (.fork 11 (.fork 12 (.take 13 (.done)) (.stop)) (.stop)) (.fork 11 (.fork 10 (.fork 12 (.take 13 (.done)) (.stop)) (.stop)) (.stop))) (.stop)) (.stop)) (.stop)) (.stop)) (.stop)) (.fork 4 (.fork 2 (.fork 6 (.fork 7 (.fork 8 (.fork 9 (.fork 10 (.fork 11 (.fork 12 (.take 13 (.done)) (.stop)) (.stop)) (.fork 11 (.fork 10 (.fork 12 (.take 13 (.done)) (.stop)) (.stop)) (.stop))) (.stop)) (.stop)) (.stop)) (.stop)) (.fork 6 (.fork 2 (.fork 7 (.fork 8 (.fork 9 (.fork 10 (.fork 11 (.fork 12 (.take 13 (.done)) (.stop)) (.stop)) (.fork 11 (.fork 10 (.fork 12 (.take 13 (.done)) (.stop)) (.stop)) (.stop))) (.stop)) (.stop)) (.stop)) (.fork 7 (.fork 2 (.fork 8 (.fork 9 (.fork 10 (.fork 11 (.fork 12 (.take 13 (.done)) (.stop)) (.stop)) (.fork 11 (.fork 10 (.fork 12 (.take 13 (.done)) (.stop)) (.stop)) (.stop))) (.stop)) (.stop)) (.stop)) (.stop))) (.stop))) (.stop))) (.fork 2 (.fork 0 (.fork 4 (.fork 6 (.fork 7 (.fork 8 (.fork 9 (.fork 10 (.fork 11 (.fork 12 (.take 13 (.done)) (.stop)) (.stop)) (.fork 11 (.fork 10 (.fork 12 (.take 13 (.done)) (.stop)) (.stop)) (.stop))) (.stop)) (.stop)) (.stop)) (.stop)) (.stop)) (.fork 4 (.fork 0 (.fork 6 (.fork 7 (.fork 8 (.fork 9 (.fork 10 (.fork 11 (.fork 12 (.take 13 (.done)) (.stop)) (.stop)) (.fork 11 (.fork 10 (.fork 12 (.take 13 (.done)) (.stop)) (.stop)) (.stop))) (.stop)) (.stop)) (.stop)) (.stop)) (.fork 6 (.fork 0 (.fork 7 (.fork 8 (.fork 9 (.fork 10 (.fork 11 (.fork 12 (.take 13 (.done)) (.stop)) (.stop)) (.fork 11 (.fork 10 (.fork 12 (.take 13 (.done)) (.stop)) (.stop)) (.stop))) (.stop)) (.stop)) (.stop)) (.fork 7 (.fork 0 (.fork 8 (.fork 9 (.fork 10 (.fork 11 (.fork 12 (.take 13 (.done)) (.stop)) (.stop)) (.fork 11 (.fork 10 (.fork 12 (.take 13 (.done)) (.stop)) (.stop)) (.stop))) (.stop)) (.stop)) (.fork 8 (.fork 0 (.fork 9 (.fork 10 (.fork 11 (.fork 12 (.take 13 (.done)) (.stop)) (.stop)) (.fork 11 (.fork 10 (.fork 12 (.take 13 (.done)) (.stop)) (.stop)) (.stop))) (.stop)) (.stop)) (.stop))) (.stop))) (.stop))) (.stop))) (.fork 4 (.fork 0 (.fork 2 (.fork 6 (.fork 7 (.fork 8 (.fork 9 (.fork 10 (.fork 11 (.fork 12 (.take 13 (.done)) (.stop)) (.stop)) (.fork 11 (.fork 10 (.fork 12 (.take 13 (.done)) (.stop)) (.stop)) (.stop))) (.stop)) (.stop)) (.stop)) (.stop)) (.fork 6 (.fork 2 (.fork 7 (.fork 8 (.fork 9 (.fork 10 (.fork 11 (.fork 12 (.take 13 (.done)) (.stop)) (.stop)) (.fork 11 (.fork 10 (.fork 12 (.take 13 (.done)) (.stop)) (.stop)) (.stop))) (.stop)) (.stop)) (.stop)) (.fork 7 (.fork 2 (.fork 8 (.fork 9 (.fork 10 (.fork 11 (.fork 12 (.take 13 (.done)) (.stop)) (.stop)) (.fork 11 (.fork 10 (.fork 12 (.take 13 (.done)) (.stop)) (.stop)) (.stop))) (.stop)) (.stop)) (.stop)) (.stop))) (.stop))) (.fork 2 (.fork 0 (.fork 6 (.fork 7 (.fork 8 (.fork 9 (.fork 10 (.fork 11 (.fork 12 (.take 13 (.done)) (.stop)) (.stop)) (.fork 11 (.fork 10 (.fork 12 (.take 13 (.done)) (.stop)) (.stop)) (.stop))) (.stop)) (.stop)) (.stop)) (.stop)) (.fork 6 (.fork 0 (.fork 7 (.fork 8 (.fork 9 (.fork 10 (.fork 11 (.fork 12 (.take 13 (.done)) (.stop)) (.stop)) (.fork 11 (.fork 10 (.fork 12 (.take 13 (.done)) (.stop)) (.stop)) (.stop))) (.stop)) (.stop)) (.stop)) (.fork 7 (.fork 0 (.fork 8 (.fork 9 (.fork 10 (.fork 11 (.fork 12 (.take 13 (.done)) (.stop)) (.stop)) (.fork 11 (.fork 10 (.fork 12 (.take 13 (.done)) (.stop)) (.stop)) (.stop))) (.stop)) (.stop)) (.fork 8 (.fork 0 (.fork 9 (.fork 10 (.fork 11 (.fork 12 (.take 13 (.done)) (.stop)) (.stop)) (.fork 11 (.fork 10 (.fork 12 (.take 13 (.done)) (.stop)) (.stop)) (.stop))) (.stop)) (.stop)) (.stop))) (.stop))) (.stop))) (.fork 6 (.fork 0 (.fork 2 (.fork 7 (.fork 8 (.fork 9 (.fork 10 (.fork 11 (.fork 12 (.take 13 (.done)) (.stop)) (.stop)) (.fork 11 (.fork 10 (.fork 12 (.take 13 (.done)) (.stop)) (.stop)) (.stop))) (.stop)) (.stop)) (.stop)) (.fork 7 (.fork 2 (.fork 8 (.fork 9 (.fork 10 (.fork 11 (.fork 12 (.take 13 (.done)) (.stop)) (.stop)) (.fork 11 (.fork 10 (.fork 12 (.take 13 (.done)) (.stop)) (.stop)) (.stop))) (.stop)) (.stop)) (.stop)) (.stop))) (.fork 2 (.fork 0 (.fork 7 (.fork 8 (.fork 9 (.fork 10 (.fork 11 (.fork 12 (.take 13 (.done)) (.stop)) (.stop)) (.fork 11 (.fork 10 (.fork 12 (.take 13 (.done)) (.stop)) (.stop)) (.stop))) (.stop)) (.stop)) (.stop)) (.fork 7 (.fork 0 (.fork 8 (.fork 9 (.fork 10 (.fork 11 (.fork 12 (.take 13 (.done)) (.stop)) (.stop)) (.fork 11 (.fork 10 (.fork 12 (.take 13 (.done)) (.stop)) (.stop)) (.stop))) (.stop)) (.stop)) (.fork 8 (.fork 0 (.fork 9 (.fork 10 (.fork 11 (.fork 12 (.take 13 (.done)) (.stop)) (.stop)) (.fork 11 (.fork 10 (.fork 12 (.take 13 (.done)) (.stop)) (.stop)) (.stop))) (.stop)) (.stop)) (.stop))) (.stop))) (.fork 7 (.fork 0 (.fork 2 (.fork 8 (.fork 9 (.fork 10 (.fork 11 (.fork 12 (.take 13 (.done)) (.stop)) (.stop)) (.fork 11 (.fork 10 (.fork 12 (.take 13 (.done)) (.stop)) (.stop)) (.stop))) (.stop)) (.stop)) (.stop)) (.fork 2 (.fork 0 (.fork 8 (.fork 9 (.fork 10 (.fork 11 (.fork 12 (.take 13 (.done)) (.stop)) (.stop)) (.fork 11 (.fork 10 (.fork 12 (.take 13 (.done)) (.stop)) (.stop)) (.stop))) (.stop)) (.stop)) (.fork 8 (.fork 0 (.fork 9 (.fork 10 (.fork 11 (.fork 12 (.take 13 (.done)) (.stop)) (.stop)) (.fork 11 (.fork 10 (.fork 12 (.take 13 (.done)) (.stop)) (.stop)) (.stop))) (.stop)) (.stop)) (.stop))) (.stop))) (.stop)))) (.stop)))) (.stop))))))) (by kernel_rfl) (by kernel_rfl) (by kernel_rfl) ?_)
    | refine nameB_yes (b := okAt w i) h ?_
    | refine nameB_self (b := okNet (withN w (laidL w.Under y))) ?_
    | refine ix_re (f := LetterT.cells) hi.1 hy ?_
    | refine nameB_true ?_
    | refine nameB_false ?_
    | refine nameB_yes (by assumption) ?_
    | refine nameB_no (by assumption) ?_
    | refine nameB_dyes (by assumption) ?_
    | refine nameB_dno (by assumption) ?_
    | (refine nameB_dec (fun h => ?_) (fun h => ?_) <;> try simp only [List.length_map, List.length_take, List.length_append, List.length_drop, List.length_set, markList_length, midL_len, mkL_length, Int.toNat_natCast, fact_byte] at h)
    | (refine nameB_cases (fun h => ?_) (fun h => ?_) <;> try simp only [bne_iff_ne, ne_eq, bne_eq_false_iff_eq, beq_iff_eq, beq_eq_false_iff_ne, Bool.not_eq_true', Bool.not_eq_false', Bool.or_eq_true, Bool.or_eq_false_iff, List.length_map, List.length_take, List.length_append, List.length_drop, List.length_set, markList_length, midL_len, mkL_length, Int.toNat_natCast, fact_byte] at h)
    | refine splitB_true ?_
    | refine splitB_false ?_
    | (refine splitB_intro (fun h => ?_) (fun h => ?_) <;> subst h)
    | refine draw_text (by kernel_rfl) (by kernel_rfl) (by kernel_rfl) ?_
    | refine both_intro ?_ ?_
    | refine eitherB_l ?_
    | exact True.intro
    | (show Go.Ab.CallA _ _ _ _ _ _ _; first
        | refine Call0 (c_isUnder w i hok hl) rfl rfl ?_
        | refine CallF (c_impl_laid w.Under y (by omega)) rfl rfl rfl (Nat.le_of_ble_eq_true rfl) ?_)
    | (show Go.Ab.CallD _ _ _ _ _ _ _; first
        | refine CallD0 (c_isUnder w i hok hl) rfl rfl rfl ?_
        | refine CallDF (c_impl_laid w.Under y (by omega)) rfl rfl ⟨rfl, rfl⟩ ?_)
    | refine ix_map_at hx ?_
    | refine ix_map_at hy ?_
    | refine sl_pre (by omega) (fun _ => rfl) ?_
    | refine sl_suf (by omega) (fun _ => rfl) ?_
    | (refine ix_map2 hx (by omega) (by (try simp only [List.length_take]); omega) (fun y hy => ?_); try simp only [Int.toNat_natCast] at hy)
    | (refine ix_map (by omega) (by (try simp only [List.length_take]); omega) (fun x hx => ?_); try simp only [Int.toNat_natCast] at hx)
    | refine side_and (side_of (by first | (and_intros <;> first | exact Nat.le_of_ble_eq_true rfl | rfl | omega | (simp only [List.length_map, List.length_append, List.length_replicate, List.length_take, List.length_cons, List.length_nil, List.length_drop, List.length_set, markList_length, midL_len, mkL_length]; omega) | exact bytes_ok (Nat.le_of_ble_eq_true rfl) (by omega) (by simp only [List.length_map, List.length_append, List.length_replicate, List.length_take, List.length_cons, List.length_nil, List.length_drop, List.length_set, markList_length, midL_len, mkL_length]; omega) | exact bytes_okN (Nat.le_of_ble_eq_true rfl) (by simp only [List.length_map, List.length_append, List.length_replicate, List.length_take, List.length_cons, List.length_nil, List.length_drop, List.length_set, markList_length, midL_len, mkL_length]; omega)) | fail)) ?_
    | refine nilB_intro (fun h => ?_) ?_
    | refine side_and (side_of (show Go.Ab.structOk _ _ = true by kernel_rfl)) ?_
    | refine side_and (side_of (map_len (fun _ => rfl))) ?_
    | refine side_and (side_of (map_one (fun _ => rfl) _)) ?_
    | refine side_and ?_ ?_
    | refine LoadK_of rfl rfl ?_
    | refine LoadD_cel rfl rfl rfl rfl ?_
    | refine LoadD_of rfl ?_
    | refine StoreD_of rfl rfl rfl ?_
    | refine AppD_of rfl (by and_intros <;> first | rfl | decide) (by simp only [List.length_map, List.length_append, List.length_take, List.length_cons, List.length_nil]; first | (refine ⟨by omega, ?_⟩; refine Nat.le_trans (Nat.mul_le_mul_left _ (show _ ≤ 512 by decide)) ?_; omega) | fail) ?_
    | refine AppN_of rfl rfl (by and_intros <;> rfl) (by simp only [List.length_map, List.length_append, List.length_take, List.length_cons, List.length_nil]; first | (refine ⟨by omega, ?_⟩; refine Nat.le_trans (Nat.mul_le_mul_left _ (show _ ≤ 512 by decide)) ?_; omega) | fail) ?_
    | (show Go.Ab.CallA _ _ [_, .own _] _ _ _ _; refine CallTo (c_withUnder w (laidL w.Under y) (laidL_ok hok hok.2.2.2 (hok.2.2.2.2 y (List.mem_of_getElem? hy)) (by omega)) hl) rfl rfl rfl rfl ?_)
    | (show False; omega)
  all_goals
    conv => whnf
    exact OutA_plain rfl rfl rfl
def lateL (y : LetterT) (by_ : Int) : LetterT := { y with Due := IntKind.i64.wrap (y.Due + by_) }
def lateR (w : NetT) (i b : Int) (y : LetterT) : NetT := withR w (laidL (outL w.Under i.toNat) (lateL y b))
theorem c_DelayOne_no (w : NetT) (i b : Int) (hok : w.ok) (hl : w.w ≤ 1048576) (h : (okAt w i && inB 1 b 50) = false) : PC Try.prog true 22 [.agg w.cells, .int .i64 i, .int .i64 b] (.tup [.agg (⟨0, [], 0, []⟩ : NetT).cells, .bool false]) [] := by
  refine pc_at Try.func22 rfl (by kernel_rfl) 42 [.cell 6 36, .tmp 7] rfl rfl ?_
  repeat' (conv => whnf); first
    | (refine nameB_cases (b := okAt w i) (fun h => ?_) (fun h => ?_))
    | (refine nameB_cases (b := inB 1 b 50) (fun h => ?_) (fun h => ?_))
    | refine nameB_true ?_
    | refine nameB_false ?_
    | refine nameB_yes (by assumption) ?_
    | refine nameB_no (by assumption) ?_
    | refine nameB_dyes (by assumption) ?_
    | refine nameB_dno (by assumption) ?_
    | (refine nameB_dec (fun h => ?_) (fun h => ?_) <;> try simp only [List.length_map, List.length_take, List.length_append, List.length_drop, List.length_set, markList_length, midL_len, mkL_length, Int.toNat_natCast, fact_byte] at h)
    | (refine nameB_cases (fun h => ?_) (fun h => ?_) <;> try simp only [bne_iff_ne, ne_eq, bne_eq_false_iff_eq, beq_iff_eq, beq_eq_false_iff_ne, Bool.not_eq_true', Bool.not_eq_false', Bool.or_eq_true, Bool.or_eq_false_iff, List.length_map, List.length_take, List.length_append, List.length_drop, List.length_set, markList_length, midL_len, mkL_length, Int.toNat_natCast, fact_byte] at h)
    | refine splitB_true ?_
    | refine splitB_false ?_
    | (refine splitB_intro (fun h => ?_) (fun h => ?_) <;> subst h)
    | refine draw_text (by kernel_rfl) (by kernel_rfl) (by kernel_rfl) ?_
    | refine both_intro ?_ ?_
    | refine eitherB_l ?_
    | exact True.intro
    | (show Go.Ab.CallA _ _ _ _ _ _ _; first
        | refine Call0 (c_isUnder w i hok hl) rfl rfl ?_
        | refine Call0 (c_impl_within ..) rfl rfl ?_)
    | (show Go.Ab.CallD _ _ _ _ _ _ _; first
        | refine CallD0 (c_isUnder w i hok hl) rfl rfl rfl ?_
        | refine CallD0 (c_impl_within ..) rfl rfl rfl ?_)
    | refine ix_map_at hx ?_
    | refine ix_map_at hy ?_
    | refine sl_pre (by omega) (fun _ => rfl) ?_
    | refine sl_suf (by omega) (fun _ => rfl) ?_
    | (refine ix_map2 hx (by omega) (by (try simp only [List.length_take]); omega) (fun y hy => ?_); try simp only [Int.toNat_natCast] at hy)
    | (refine ix_map (by omega) (by (try simp only [List.length_take]); omega) (fun x hx => ?_); try simp only [Int.toNat_natCast] at hx)
    | refine side_and (side_of (by first | (and_intros <;> first | exact Nat.le_of_ble_eq_true rfl | rfl | omega | (simp only [List.length_map, List.length_append, List.length_replicate, List.length_take, List.length_cons, List.length_nil, List.length_drop, List.length_set, markList_length, midL_len, mkL_length]; omega) | exact bytes_ok (Nat.le_of_ble_eq_true rfl) (by omega) (by simp only [List.length_map, List.length_append, List.length_replicate, List.length_take, List.length_cons, List.length_nil, List.length_drop, List.length_set, markList_length, midL_len, mkL_length]; omega) | exact bytes_okN (Nat.le_of_ble_eq_true rfl) (by simp only [List.length_map, List.length_append, List.length_replicate, List.length_take, List.length_cons, List.length_nil, List.length_drop, List.length_set, markList_length, midL_len, mkL_length]; omega)) | fail)) ?_
    | refine nilB_intro (fun h => ?_) ?_
    | refine side_and (side_of (show Go.Ab.structOk _ _ = true by kernel_rfl)) ?_
    | refine side_and (side_of (map_len (fun _ => rfl))) ?_
    | refine side_and (side_of (map_one (fun _ => rfl) _)) ?_
    | refine side_and ?_ ?_
    | refine LoadK_of rfl rfl ?_
    | refine LoadD_cel rfl rfl rfl rfl ?_
    | refine LoadD_of rfl ?_
    | refine StoreD_of rfl rfl rfl ?_
    | refine AppD_of rfl (by and_intros <;> first | rfl | decide) (by simp only [List.length_map, List.length_append, List.length_take, List.length_cons, List.length_nil]; first | (refine ⟨by omega, ?_⟩; refine Nat.le_trans (Nat.mul_le_mul_left _ (show _ ≤ 512 by decide)) ?_; omega) | fail) ?_
    | refine AppN_of rfl rfl (by and_intros <;> rfl) (by simp only [List.length_map, List.length_append, List.length_take, List.length_cons, List.length_nil]; first | (refine ⟨by omega, ?_⟩; refine Nat.le_trans (Nat.mul_le_mul_left _ (show _ ≤ 512 by decide)) ?_; omega) | fail) ?_
    | (show False; omega)
  all_goals
    conv => whnf
    first
    | (exfalso; simp_all; done)
    | (refine OutA_nilB 16 1 3 1 1 rfl rfl rfl (by decide) (OutA_nilB 16 2 79 4 3 rfl rfl rfl (by decide) ?_); refine OutA_frz [1, 2] ?_; (conv => whnf); exact OutA_plain rfl rfl rfl)
theorem c_DelayOne_yes (w : NetT) (i b : Int) (y : LetterT) (hok : w.ok) (hl : w.w ≤ 1048576) (h : okAt w i = true) (hb : inB 1 b 50 = true) (hy : w.Under[i.toNat]? = some y) : PC Try.prog true 22 [.agg w.cells, .int .i64 i, .int .i64 b] (.tup [.agg (lateR w i b y).cells, .bool (okNet (withN w (laidL (outL w.Under i.toNat) (lateL y b))))]) [] := by
  have hn := net_len hl
  have hi := okAt_side h
  have hw1 : IntKind.i64.wrap (i + 1) = i + 1 := i64_wrap (by omega) (by omega)
  have ho : (outL w.Under i.toNat).length ≤ 1048576 := by
    unfold outL
    simp only [List.length_append, List.length_take, List.length_drop]
    omega
  refine pc_at Try.func22 rfl (by kernel_rfl) 42 [.cell 6 36, .tmp 7] rfl rfl ?_
  repeat' (conv => whnf); first
    | (show Go.Ab.drawA _ _ _ _ _; refine draw_exp (.take 1 (.take 4 (.take 5 (.take 6 (.fork 0 (.fork 2 (.fork 3 (.fork 7 (.fork 8 (.fork 9 (.fork 10 (.fork 11 (.fork 12 (.fork 13 (.take 14 (.done)) (.stop)) (.stop)) (.fork 12 (.fork 11 (.fork 13 (.take 14 (.done)) (.stop)) (.stop)) (.stop))) (.stop)) (.stop)) (.stop)) (.fork 8 (.fork 7 (.fork 9 (.fork 10 (.fork 11 (.fork 12 (.fork 13 (.take 14 (.done)) (.stop)) (.stop)) (.fork 12 (.fork 11 (.fork 13 (.take 14 (.done)) (.stop)) (.stop)) (.stop))) (.stop)) (.stop)) (.stop)) (.stop))) (.fork 8 (.fork 3 (.fork 7 (.fork 9 (.fork 10 (.fork 11 (.fork 12 (.fork 13 (.take 14 (.done)) (.stop)) (.stop)) (.fork 12 (.fork 11 (.fork 13 (.take 14 (.done)) (.stop)) (.stop)) (.stop))) (.stop)) (.stop)) (.stop)) (.stop)) (.stop))) (.fork 8 (.fork 2 (.fork 3 (.fork 7 (.fork 9 (.fork 10 (.fork 11 (.fork 12 (.fork 13 (.take 14 (.done)) (.stop)) (.stop)) (.fork 12 (.fork 11 (.fork 13 (.take 14 (.done)) (.stop)) (.stop)) (.stop))) (.stop)) (.stop)) (.stop)) (.stop)) (.stop)) (.stop))) (.fork 2 (.fork 0 (.fork 3 (.fork 7 (.fork 8 (.fork 9 (.fork 10 (.fork 11 (.fork 12 (.fork 13 (.take 14 (.done)) (.stop)) (.stop)) (.fork 12 (.fork 11 (.fork 13 (.take 14 (.done)) (.stop)) (.stop)) (.stop))) (.stop)) (.stop)) (.stop)) (.fork 8 (.fork 7 (.fork 9 (.fork 10 (.fork 11 (.fork 12 (.fork 13 (.take 14 (.done)) (.stop)) (.stop)) (.fork 12 (.fork 11 (.fork 13 (.take 14 (.done)) (.stop)) (.stop)) (.stop))) (.stop)) (.stop)) (.stop)) (.stop))) (.fork 8 (.fork 3 (.fork 7 (.fork 9 (.fork 10 (.fork 11 (.fork 12 (.fork 13 (.take 14 (.done)) (.stop)) (.stop)) (.fork 12 (.fork 11 (.fork 13 (.take 14 (.done)) (.stop)) (.stop)) (.stop))) (.stop)) (.stop)) (.stop)) (.stop)) (.stop))) (.fork 3 (.fork 0 (.fork 7 (.fork 8 (.fork 9 (.fork 10 (.fork 11 (.fork 12 (.fork 13 (.take 14 (.done)) (.stop)) (.stop)) (.fork 12 (.fork 11 (.fork 13 (.take 14 (.done)) (.stop)) (.stop)) (.stop))) (.stop)) (.stop)) (.stop)) (.fork 8 (.fork 7 (.fork 9 (.fork 10 (.fork 11 (.fork 12 (.fork 13 (.take 14 (.done)) (.stop)) (.stop)) (.fork 12 (.fork 11 (.fork 13 (.take 14 (.done)) (.stop)) (.stop)) (.stop))) (.stop)) (.stop)) (.stop)) (.stop))) (.fork 7 (.fork 0 (.fork 8 (.fork 9 (.fork 10 (.fork 11 (.fork 12 (.fork 13 (.take 14 (.done)) (.stop)) (.stop)) (.fork 12 (.fork 11 (.fork 13 (.take 14 (.done)) (.stop)) (.stop)) (.stop))) (.stop)) (.stop)) (.stop)) (.fork 8 (.fork 0 (.fork 9 (.fork 10 (.fork 11 (.fork 12 (.fork 13 (.take 14 (.done)) (.stop)) (.stop)) (.fork 12 (.fork 11 (.fork 13 (.take 14 (.done)) (.stop)) (.stop)) (.stop))) (.stop)) (.stop)) (.fork 9 (.fork 0 (.fork 10 (.fork 11 (.fork 12 (.fork 13 (.take 14 (.done)) (.stop)) (.stop)) (.fork 12 (.fork 11 (.fork 13 (.take 14 (.done)) (.stop)) (.stop)) (.stop))) (.stop)) (.stop)) (.stop))) (.stop))) (.fork 8 (.fork 0 (.fork 7 (.fork 9 (.fork 10 (.fork 11 (.fork 12 (.fork 13 (.take 14 (.done)) (.stop)) (.stop)) (.fork 12 (.fork 11 (.fork 13 (.take 14 (.done)) (.stop)) (.stop)) (.stop))) (.stop)) (.stop)) (.stop)) (.fork 7 (.fork 0 (.fork 9 (.fork 10 (.fork 11 (.fork 12 (.fork 13 (.take 14 (.done)) (.stop)) (.stop)) (.fork 12 (.fork 11 (.fork 13 (.take 14 (.done)) (.stop)) (.stop)) (.stop))) (.stop)) (.stop)) (.fork 9 (.fork 0 (.fork 10 (.fork 11 (.fork 12 (.fork 13 (.take 14 (.done)) (.stop)) (.stop)) (.fork 12 (.fork 11 (.fork 13 (.take 14 (.done)) (.stop)) (.stop)) (.stop))) (.stop)) (.stop)) (.stop))) (.stop))) (.stop)))) (.fork 8 (.fork 0 (.fork 3 (.fork 7 (.fork 9 (.fork 10 (.fork 11 (.fork 12 (.fork 13 (.take 14 (.done)) (.stop)) (.stop)) (.fork 12 (.fork 11 (.fork 13 (.take 14 (.done)) (.stop)) (.stop)) (.stop))) (.stop)) (.stop)) (.stop)) (.stop)) (.fork 3 (.fork 0 (.fork 7 (.fork 9 (.fork 10 (.fork 11 (.fork 12 (.fork 13 (.take 14 (.done)) (.stop)) (.stop)) (.fork 12 (.fork 11 (.fork 13 (.take 14 (.done)) (.stop)) (.stop)) (.stop))) (.stop)) (.stop)) (.stop)) (.fork 7 (.fork 0 (.fork 9 (.fork 10 (.fork 11 (.fork 12 (.fork 13 (.take 14 (.done)) (.stop)) (.stop)) (.fork 12 (.fork 11 (.fork 13 (.take 14 (.done)) (.stop)) (.stop)) (.stop))) (.stop)) (.stop)) (.fork 9 (.fork 0 (.fork 10 (.fork 11 (.fork 12 (.fork 13 (.take 14 (.done)) (.stop)) (.stop)) (.fork 12 (.fork 11 (.fork 13 (.take 14 (.done)) (.stop)) (.stop)) (.stop))) (.stop)) (.stop)) (.stop))) (.stop))) (.stop))) (.stop)))) (.fork 8 (.fork 0 (.fork 2 (.fork 3 (.fork 7 (.fork 9 (.fork 10 (.fork 11 (.fork 12 (.fork 13 (.take 14 (.done)) (.stop)) (.stop)) (.fork 12 (.fork 11 (.fork 13 (.take 14 (.done)) (.stop)) (.stop)) (.stop))) (.stop)) (.stop)) (.stop)) (.stop)) (.stop)) (.fork 2 (.fork 0 (.fork 3 (.fork 7 (.fork 9 (.fork 10 (.fork 11 (.fork 12 (.fork 13 (.take 14 (.done)) (.stop)) (.stop)) (.fork 12 (.fork 11 (.fork 13 (.take 14 (.done)) (.stop)) (.stop)) (.stop))) (.stop)) (.stop)) (.stop)) (.stop)) (.fork 3 (.fork 0 (.fork 7 (.fork 9 (.fork 10 (.fork 11 (.fork 12 (.fork 13 (.take 14 (.done)) (.stop)) (.stop)) (.fork 12 (.fork 11 (.fork 13 (.take 14 (.done)) (.stop)) (.stop)) (.stop))) (.stop)) (.stop)) (.stop)) (.fork 7 (.fork 0 (.fork 9 (.fork 10 (.fork 11 (.fork 12 (.fork 13 (.take 14 (.done)) (.stop)) (.stop)) (.fork 12 (.fork 11 (.fork 13 (.take 14 (.done)) (.stop)) (.stop)) (.stop))) (.stop)) (.stop)) (.fork 9 (.fork 0 (.fork 10 (.fork 11 (.fork 12 (.fork 13 (.take 14 (.done)) (.stop)) (.stop)) (.fork 12 (.fork 11 (.fork 13 (.take 14 (.done)) (.stop)) (.stop)) (.stop))) (.stop)) (.stop)) (.stop))) (.stop))) (.stop))) (.stop))) (.stop)))))))) (by kernel_rfl) (by kernel_rfl) (by kernel_rfl) ?_)
    | refine nameB_self (b := okNet (withN w (laidL (outL w.Under i.toNat) (lateL y b)))) ?_
    | refine nameB_yes (b := okAt w i) h ?_
    | refine nameB_yes (b := inB 1 b 50) hb ?_
    | refine ix_re (f := LetterT.cells) hi.1 hy ?_
    | refine nameB_true ?_
    | refine nameB_false ?_
    | refine nameB_yes (by assumption) ?_
    | refine nameB_no (by assumption) ?_
    | refine nameB_dyes (by assumption) ?_
    | refine nameB_dno (by assumption) ?_
    | (refine nameB_dec (fun h => ?_) (fun h => ?_) <;> try simp only [List.length_map, List.length_take, List.length_append, List.length_drop, List.length_set, markList_length, midL_len, mkL_length, Int.toNat_natCast, fact_byte] at h)
    | (refine nameB_cases (fun h => ?_) (fun h => ?_) <;> try simp only [bne_iff_ne, ne_eq, bne_eq_false_iff_eq, beq_iff_eq, beq_eq_false_iff_ne, Bool.not_eq_true', Bool.not_eq_false', Bool.or_eq_true, Bool.or_eq_false_iff, List.length_map, List.length_take, List.length_append, List.length_drop, List.length_set, markList_length, midL_len, mkL_length, Int.toNat_natCast, fact_byte] at h)
    | refine splitB_true ?_
    | refine splitB_false ?_
    | (refine splitB_intro (fun h => ?_) (fun h => ?_) <;> subst h)
    | refine draw_text (by kernel_rfl) (by kernel_rfl) (by kernel_rfl) ?_
    | refine both_intro ?_ ?_
    | refine eitherB_l ?_
    | exact True.intro
    | (show Go.Ab.CallA _ _ _ _ _ _ _; first
        | refine Call0 (c_isUnder w i hok hl) rfl rfl ?_
        | refine Call0 (c_impl_within ..) rfl rfl ?_
        | refine CallF (c_Clone_Letter w.Under (by omega)) rfl rfl rfl (Nat.le_of_ble_eq_true rfl) ?_
        | refine CallX (c_Delete_Letter w.Under i _ hi.1 hw1 hi.2 (by omega)) [20528] rfl ⟨rfl, trivial⟩ rfl rfl rfl ?_
        | refine CallF (c_impl_laid (outL w.Under i.toNat) (lateL y b) ho) rfl rfl rfl (Nat.le_of_ble_eq_true rfl) ?_)
    | (show Go.Ab.CallD _ _ _ _ _ _ _; first
        | refine CallD0 (c_isUnder w i hok hl) rfl rfl rfl ?_
        | refine CallD0 (c_impl_within ..) rfl rfl rfl ?_
        | refine CallDF (c_Clone_Letter w.Under (by omega)) rfl rfl ⟨rfl, rfl⟩ ?_
        | refine CallDF (c_impl_laid (outL w.Under i.toNat) (lateL y b) ho) rfl rfl ⟨rfl, rfl⟩ ?_)
    | refine ix_map_at hx ?_
    | refine ix_map_at hy ?_
    | refine sl_pre (by omega) (fun _ => rfl) ?_
    | refine sl_suf (by omega) (fun _ => rfl) ?_
    | (refine ix_map2 hx (by omega) (by (try simp only [List.length_take]); omega) (fun y hy => ?_); try simp only [Int.toNat_natCast] at hy)
    | (refine ix_map (by omega) (by (try simp only [List.length_take]); omega) (fun x hx => ?_); try simp only [Int.toNat_natCast] at hx)
    | refine side_and (side_of (by first | (and_intros <;> first | exact Nat.le_of_ble_eq_true rfl | rfl | omega | (simp only [List.length_map, List.length_append, List.length_replicate, List.length_take, List.length_cons, List.length_nil, List.length_drop, List.length_set, markList_length, midL_len, mkL_length]; omega) | exact bytes_ok (Nat.le_of_ble_eq_true rfl) (by omega) (by simp only [List.length_map, List.length_append, List.length_replicate, List.length_take, List.length_cons, List.length_nil, List.length_drop, List.length_set, markList_length, midL_len, mkL_length]; omega) | exact bytes_okN (Nat.le_of_ble_eq_true rfl) (by simp only [List.length_map, List.length_append, List.length_replicate, List.length_take, List.length_cons, List.length_nil, List.length_drop, List.length_set, markList_length, midL_len, mkL_length]; omega)) | fail)) ?_
    | refine nilB_intro (fun h => ?_) ?_
    | refine side_and (side_of (show Go.Ab.structOk _ _ = true by kernel_rfl)) ?_
    | refine side_and (side_of (map_len (fun _ => rfl))) ?_
    | refine side_and (side_of (map_one (fun _ => rfl) _)) ?_
    | refine side_and ?_ ?_
    | refine LoadK_of rfl rfl ?_
    | refine LoadD_cel rfl rfl rfl rfl ?_
    | refine LoadD_of rfl ?_
    | refine StoreD_of rfl rfl rfl ?_
    | refine AppD_of rfl (by and_intros <;> first | rfl | decide) (by simp only [List.length_map, List.length_append, List.length_take, List.length_cons, List.length_nil]; first | (refine ⟨by omega, ?_⟩; refine Nat.le_trans (Nat.mul_le_mul_left _ (show _ ≤ 512 by decide)) ?_; omega) | fail) ?_
    | refine AppN_of rfl rfl (by and_intros <;> rfl) (by simp only [List.length_map, List.length_append, List.length_take, List.length_cons, List.length_nil]; first | (refine ⟨by omega, ?_⟩; refine Nat.le_trans (Nat.mul_le_mul_left _ (show _ ≤ 512 by decide)) ?_; omega) | fail) ?_
    | (show Go.Ab.CallA _ _ [_, .own _] _ _ _ _; refine CallTo (c_withUnder w (laidL (outL w.Under i.toNat) (lateL y b)) (laidL_ok hok (outL_ok hok).2.2.2 (hok.2.2.2.2 y (List.mem_of_getElem? hy)) ho) hl) rfl rfl rfl rfl ?_)
    | (show False; omega)
  all_goals
    conv => whnf
    exact OutA_plain rfl rfl rfl
theorem c_Tick (w : NetT) (hok : w.ok) (hl : w.w ≤ 1048576) (h : okTick w = true) : PC Try.prog true 23 [.agg w.cells] (.tup [.agg (tickN w).cells, .bool true]) [] := by
  have hg : okNet w = true := by unfold okTick at h; rw [Bool.and_eq_true] at h; exact h.1
  have hn : (w.Now == 100000) = false := by unfold okTick at h; rw [Bool.and_eq_true] at h; simpa using h.2
  refine pc_at Try.func23 rfl (by kernel_rfl) 21 [.cell 2 36, .tmp 3] rfl rfl ?_
  repeat' (conv => whnf); first
    | (refine nameB_no (b := w.Now == 100000) hn ?_)
    | refine nameB_true ?_
    | refine nameB_false ?_
    | refine nameB_yes (by assumption) ?_
    | refine nameB_no (by assumption) ?_
    | refine nameB_dyes (by assumption) ?_
    | refine nameB_dno (by assumption) ?_
    | (refine nameB_dec (fun h => ?_) (fun h => ?_) <;> try simp only [List.length_map, List.length_take, List.length_append, List.length_drop, List.length_set, markList_length, midL_len, mkL_length, Int.toNat_natCast, fact_byte] at h)
    | (refine nameB_cases (fun h => ?_) (fun h => ?_) <;> try simp only [bne_iff_ne, ne_eq, bne_eq_false_iff_eq, beq_iff_eq, beq_eq_false_iff_ne, Bool.not_eq_true', Bool.not_eq_false', Bool.or_eq_true, Bool.or_eq_false_iff, List.length_map, List.length_take, List.length_append, List.length_drop, List.length_set, markList_length, midL_len, mkL_length, Int.toNat_natCast, fact_byte] at h)
    | refine splitB_true ?_
    | refine splitB_false ?_
    | (refine splitB_intro (fun h => ?_) (fun h => ?_) <;> subst h)
    | refine draw_text (by kernel_rfl) (by kernel_rfl) (by kernel_rfl) ?_
    | refine both_intro ?_ ?_
    | refine eitherB_l ?_
    | exact True.intro
    | (show Go.Ab.CallA _ _ _ _ _ _ _; first
        | refine Call0 (pc_bool (c_impl_GoodNet w hok) hg) rfl rfl ?_
        | refine CallF (c_impl_copyNet w hl) rfl rfl rfl (Nat.le_of_ble_eq_true rfl) ?_)
    | refine ix_map_at hx ?_
    | refine ix_map_at hy ?_
    | refine sl_pre (by omega) (fun _ => rfl) ?_
    | refine sl_suf (by omega) (fun _ => rfl) ?_
    | (refine ix_map2 hx (by omega) (by (try simp only [List.length_take]); omega) (fun y hy => ?_); try simp only [Int.toNat_natCast] at hy)
    | (refine ix_map (by omega) (by (try simp only [List.length_take]); omega) (fun x hx => ?_); try simp only [Int.toNat_natCast] at hx)
    | refine side_and (side_of (by first | (and_intros <;> first | exact Nat.le_of_ble_eq_true rfl | rfl | omega | (simp only [List.length_map, List.length_append, List.length_replicate, List.length_take, List.length_cons, List.length_nil, List.length_drop, List.length_set, markList_length, midL_len, mkL_length]; omega) | exact bytes_ok (Nat.le_of_ble_eq_true rfl) (by omega) (by simp only [List.length_map, List.length_append, List.length_replicate, List.length_take, List.length_cons, List.length_nil, List.length_drop, List.length_set, markList_length, midL_len, mkL_length]; omega) | exact bytes_okN (Nat.le_of_ble_eq_true rfl) (by simp only [List.length_map, List.length_append, List.length_replicate, List.length_take, List.length_cons, List.length_nil, List.length_drop, List.length_set, markList_length, midL_len, mkL_length]; omega)) | fail)) ?_
    | refine nilB_intro (fun h => ?_) ?_
    | refine side_and (side_of (show Go.Ab.structOk _ _ = true by kernel_rfl)) ?_
    | refine side_and (side_of (map_len (fun _ => rfl))) ?_
    | refine side_and (side_of (map_one (fun _ => rfl) _)) ?_
    | refine side_and ?_ ?_
    | refine LoadK_of rfl rfl ?_
    | refine LoadD_cel rfl rfl rfl rfl ?_
    | refine LoadD_of rfl ?_
    | refine StoreD_of rfl rfl rfl ?_
    | refine AppD_of rfl (by and_intros <;> first | rfl | decide) (by simp only [List.length_map, List.length_append, List.length_take, List.length_cons, List.length_nil]; first | (refine ⟨by omega, ?_⟩; refine Nat.le_trans (Nat.mul_le_mul_left _ (show _ ≤ 512 by decide)) ?_; omega) | fail) ?_
    | refine AppN_of rfl rfl (by and_intros <;> rfl) (by simp only [List.length_map, List.length_append, List.length_take, List.length_cons, List.length_nil]; first | (refine ⟨by omega, ?_⟩; refine Nat.le_trans (Nat.mul_le_mul_left _ (show _ ≤ 512 by decide)) ?_; omega) | fail) ?_
    | (show False; omega)
  all_goals
    conv => whnf
    first
    | (refine OutA_frz [12304, 12305] ?_; (conv => whnf); exact OutA_plain rfl rfl rfl)
    | (exfalso; simp_all; done)
def delN (w : NetT) : NetT := { w with Under := w.Under.drop (posL w.Now w.Under) }
def delL (w : NetT) : List LetterT := w.Under.take (posL w.Now w.Under)
theorem c_Clone_at (xs : List LetterT) (L : List (List AV)) (hL : L = xs.map LetterT.cells) (hl : xs.length ≤ 1048576) : PC Try.prog false 51 [.sl L] (.own 0) [⟨false, 79, 4, xs.map LetterT.cells⟩] := by
  subst hL
  exact c_Clone_Letter xs hl
theorem dropE {xs : List LetterT} {n k : Int} {p : Nat} (hn : xs.length ≤ n.toNat) (hk : k.toNat = p) : ((xs.map LetterT.cells).take n.toNat).drop k.toNat = (xs.drop p).map LetterT.cells := by
  rw [List.take_of_length_le (by rw [List.length_map]; exact hn), hk, List.map_drop]
theorem takeE {xs : List LetterT} {n k : Int} {p : Nat} (hn : n.toNat = p) (hk : k.toNat = 0) : ((xs.map LetterT.cells).take n.toNat).drop k.toNat = (xs.take p).map LetterT.cells := by
  rw [hn, hk, List.drop_zero, List.map_take]
theorem posL_nat {d : Int} {xs : List LetterT} {z : Int} (h : z = idxF (aft d) 0 xs ∧ ¬ idxF (aft d) 0 xs < 0 ∨ z = (xs.length : Int) ∧ idxF (aft d) 0 xs < 0) : z.toNat = posL d xs := by
  rcases h with ⟨rfl, h⟩ | ⟨rfl, h⟩
  · rw [posL_int h]; rfl
  · rw [posL_end h]; rfl
theorem c_delivered (w : NetT) (hl : w.w ≤ 1048576) : PC Try.prog true 55 [.agg w.cells] (.tup [.agg (delN w).cells, .sl ((delL w).map LetterT.cells)]) [] := by
  have hn := net_len hl
  have hbd := idxF_bound (aft w.Now) w.Under
  have hp := posL_le w.Now w.Under
  refine pc_at Try.func55 rfl (by kernel_rfl) 29 [.cell 2 36, .tmp 3] rfl rfl ?_
  repeat' (conv => whnf); first
    | (show Go.Ab.drawA _ _ _ _ _; refine draw_exp (.take 1 (.take 3 (.fork 0 (.fork 2 (.fork 4 (.fork 5 (.fork 6 (.take 7 (.done)) (.stop)) (.stop)) (.stop)) (.stop)) (.fork 2 (.fork 0 (.fork 4 (.fork 5 (.fork 6 (.take 7 (.done)) (.stop)) (.stop)) (.stop)) (.fork 4 (.fork 0 (.fork 5 (.fork 6 (.take 7 (.done)) (.stop)) (.stop)) (.fork 5 (.fork 0 (.fork 6 (.take 7 (.done)) (.stop)) (.stop)) (.stop))) (.stop))) (.stop))))) (by kernel_rfl) (by kernel_rfl) (by kernel_rfl) ?_)
    | refine nameB_true ?_
    | refine nameB_false ?_
    | refine nameB_yes (by assumption) ?_
    | refine nameB_no (by assumption) ?_
    | refine nameB_dyes (by assumption) ?_
    | refine nameB_dno (by assumption) ?_
    | (refine nameB_dec (fun h => ?_) (fun h => ?_) <;> try simp only [List.length_map, List.length_take, List.length_append, List.length_drop, List.length_set, markList_length, midL_len, mkL_length, Int.toNat_natCast, fact_byte] at h)
    | (refine nameB_cases (fun h => ?_) (fun h => ?_) <;> try simp only [bne_iff_ne, ne_eq, bne_eq_false_iff_eq, beq_iff_eq, beq_eq_false_iff_ne, Bool.not_eq_true', Bool.not_eq_false', Bool.or_eq_true, Bool.or_eq_false_iff, List.length_map, List.length_take, List.length_append, List.length_drop, List.length_set, markList_length, midL_len, mkL_length, Int.toNat_natCast, fact_byte] at h)
    | refine splitB_true ?_
    | refine splitB_false ?_
    | (refine splitB_intro (fun h => ?_) (fun h => ?_) <;> subst h)
    | refine draw_text (by kernel_rfl) (by kernel_rfl) (by kernel_rfl) ?_
    | refine both_intro ?_ ?_
    | refine eitherB_l ?_
    | exact True.intro
    | (show Go.Ab.CallA _ _ _ _ _ _ _; first
        | refine Call0 (c_IndexFunc_Letter w.Under 82 [.rp w.cells] (aft w.Now) (by omega) ⟨fun _ => rfl, fun _ => rfl, fun _ => rfl, fun _ => rfl, fun _ => rfl⟩ (fun y _ => c_impl_delivered_1 w y)) rfl rfl ?_
        | refine CallF (c_impl_copyNet w hl) rfl rfl rfl (Nat.le_of_ble_eq_true rfl) ?_
        | refine CallF (c_Clone_at (w.Under.drop (posL w.Now w.Under)) _ (by exact dropE (by simp) (posL_nat (by first | exact .inl ⟨rfl, by assumption⟩ | exact .inr ⟨by simp, by assumption⟩))) (by rw [List.length_drop]; omega)) rfl rfl rfl (Nat.le_of_ble_eq_true rfl) ?_
        | refine CallF (c_Clone_at (w.Under.take (posL w.Now w.Under)) _ (by exact takeE (posL_nat (by first | exact .inl ⟨rfl, by assumption⟩ | exact .inr ⟨by simp, by assumption⟩)) rfl) (by rw [List.length_take]; omega)) rfl rfl rfl (Nat.le_of_ble_eq_true rfl) ?_)
    | (show Go.Ab.CallD _ _ _ _ _ _ _; first
        | refine CallD0 (c_IndexFunc_Letter w.Under 82 [.rp w.cells] (aft w.Now) (by omega) ⟨fun _ => rfl, fun _ => rfl, fun _ => rfl, fun _ => rfl, fun _ => rfl⟩ (fun y _ => c_impl_delivered_1 w y)) rfl rfl rfl ?_
        | refine CallDF (c_impl_copyNet w hl) rfl rfl ⟨rfl, rfl⟩ ?_
        | refine CallDF (c_Clone_at (w.Under.drop (posL w.Now w.Under)) _ (by exact dropE (by simp) (posL_nat (by first | exact .inl ⟨rfl, by assumption⟩ | exact .inr ⟨by simp, by assumption⟩))) (by rw [List.length_drop]; omega)) rfl rfl ⟨rfl, rfl⟩ ?_
        | refine CallDF (c_Clone_at (w.Under.take (posL w.Now w.Under)) _ (by exact takeE (posL_nat (by first | exact .inl ⟨rfl, by assumption⟩ | exact .inr ⟨by simp, by assumption⟩)) rfl) (by rw [List.length_take]; omega)) rfl rfl ⟨rfl, rfl⟩ ?_)
    | refine ix_map_at hx ?_
    | refine ix_map_at hy ?_
    | refine sl_pre (by omega) (fun _ => rfl) ?_
    | refine sl_suf (by omega) (fun _ => rfl) ?_
    | (refine ix_map2 hx (by omega) (by (try simp only [List.length_take]); omega) (fun y hy => ?_); try simp only [Int.toNat_natCast] at hy)
    | (refine ix_map (by omega) (by (try simp only [List.length_take]); omega) (fun x hx => ?_); try simp only [Int.toNat_natCast] at hx)
    | refine side_and (side_of (by first | (and_intros <;> first | exact Nat.le_of_ble_eq_true rfl | rfl | omega | (simp only [List.length_map, List.length_append, List.length_replicate, List.length_take, List.length_cons, List.length_nil, List.length_drop, List.length_set, markList_length, midL_len, mkL_length]; omega) | exact bytes_ok (Nat.le_of_ble_eq_true rfl) (by omega) (by simp only [List.length_map, List.length_append, List.length_replicate, List.length_take, List.length_cons, List.length_nil, List.length_drop, List.length_set, markList_length, midL_len, mkL_length]; omega) | exact bytes_okN (Nat.le_of_ble_eq_true rfl) (by simp only [List.length_map, List.length_append, List.length_replicate, List.length_take, List.length_cons, List.length_nil, List.length_drop, List.length_set, markList_length, midL_len, mkL_length]; omega)) | fail)) ?_
    | refine nilB_intro (fun h => ?_) ?_
    | refine side_and (side_of (show Go.Ab.structOk _ _ = true by kernel_rfl)) ?_
    | refine side_and (side_of (map_len (fun _ => rfl))) ?_
    | refine side_and (side_of (map_one (fun _ => rfl) _)) ?_
    | refine side_and ?_ ?_
    | refine LoadK_of rfl rfl ?_
    | refine LoadD_cel rfl rfl rfl rfl ?_
    | refine LoadD_of rfl ?_
    | refine StoreD_of rfl rfl rfl ?_
    | refine AppD_of rfl (by and_intros <;> first | rfl | decide) (by simp only [List.length_map, List.length_append, List.length_take, List.length_cons, List.length_nil]; first | (refine ⟨by omega, ?_⟩; refine Nat.le_trans (Nat.mul_le_mul_left _ (show _ ≤ 512 by decide)) ?_; omega) | fail) ?_
    | refine AppN_of rfl rfl (by and_intros <;> rfl) (by simp only [List.length_map, List.length_append, List.length_take, List.length_cons, List.length_nil]; first | (refine ⟨by omega, ?_⟩; refine Nat.le_trans (Nat.mul_le_mul_left _ (show _ ≤ 512 by decide)) ?_; omega) | fail) ?_
    | (show False; omega)
  all_goals
    conv => whnf
    refine OutA_frz [16400, 20544, 24656] ?_
    conv => whnf
    exact OutA_plain rfl rfl rfl
theorem c_Deliver (w : NetT) (hok : w.ok) (hl : w.w ≤ 1048576) (hg : okNet w = true) : PC Try.prog true 24 [.agg w.cells] (.tup [.agg (delN w).cells, .sl ((delL w).map LetterT.cells), .bool true]) [] := by
  refine pc_at Try.func24 rfl (by kernel_rfl) 18 [.cell 2 36, .tmp 3, .tmp 4] rfl rfl ?_
  repeat' (conv => whnf); first
    | refine nameB_true ?_
    | refine nameB_false ?_
    | refine nameB_yes (by assumption) ?_
    | refine nameB_no (by assumption) ?_
    | refine nameB_dyes (by assumption) ?_
    | refine nameB_dno (by assumption) ?_
    | (refine nameB_dec (fun h => ?_) (fun h => ?_) <;> try simp only [List.length_map, List.length_take, List.length_append, List.length_drop, List.length_set, markList_length, midL_len, mkL_length, Int.toNat_natCast, fact_byte] at h)
    | (refine nameB_cases (fun h => ?_) (fun h => ?_) <;> try simp only [bne_iff_ne, ne_eq, bne_eq_false_iff_eq, beq_iff_eq, beq_eq_false_iff_ne, Bool.not_eq_true', Bool.not_eq_false', Bool.or_eq_true, Bool.or_eq_false_iff, List.length_map, List.length_take, List.length_append, List.length_drop, List.length_set, markList_length, midL_len, mkL_length, Int.toNat_natCast, fact_byte] at h)
    | refine splitB_true ?_
    | refine splitB_false ?_
    | (refine splitB_intro (fun h => ?_) (fun h => ?_) <;> subst h)
    | refine draw_text (by kernel_rfl) (by kernel_rfl) (by kernel_rfl) ?_
    | refine both_intro ?_ ?_
    | refine eitherB_l ?_
    | exact True.intro
    | (show Go.Ab.CallA _ _ _ _ _ _ _; first
        | refine Call0 (pc_bool (c_impl_GoodNet w hok) hg) rfl rfl ?_
        | refine CallT (c_delivered w hl) rfl rfl rfl rfl (Nat.le_of_ble_eq_true rfl) ?_)
    | refine ix_map_at hx ?_
    | refine ix_map_at hy ?_
    | refine sl_pre (by omega) (fun _ => rfl) ?_
    | refine sl_suf (by omega) (fun _ => rfl) ?_
    | (refine ix_map2 hx (by omega) (by (try simp only [List.length_take]); omega) (fun y hy => ?_); try simp only [Int.toNat_natCast] at hy)
    | (refine ix_map (by omega) (by (try simp only [List.length_take]); omega) (fun x hx => ?_); try simp only [Int.toNat_natCast] at hx)
    | refine side_and (side_of (by first | (and_intros <;> first | exact Nat.le_of_ble_eq_true rfl | rfl | omega | (simp only [List.length_map, List.length_append, List.length_replicate, List.length_take, List.length_cons, List.length_nil, List.length_drop, List.length_set, markList_length, midL_len, mkL_length]; omega) | exact bytes_ok (Nat.le_of_ble_eq_true rfl) (by omega) (by simp only [List.length_map, List.length_append, List.length_replicate, List.length_take, List.length_cons, List.length_nil, List.length_drop, List.length_set, markList_length, midL_len, mkL_length]; omega) | exact bytes_okN (Nat.le_of_ble_eq_true rfl) (by simp only [List.length_map, List.length_append, List.length_replicate, List.length_take, List.length_cons, List.length_nil, List.length_drop, List.length_set, markList_length, midL_len, mkL_length]; omega)) | fail)) ?_
    | refine nilB_intro (fun h => ?_) ?_
    | refine side_and (side_of (show Go.Ab.structOk _ _ = true by kernel_rfl)) ?_
    | refine side_and (side_of (map_len (fun _ => rfl))) ?_
    | refine side_and (side_of (map_one (fun _ => rfl) _)) ?_
    | refine side_and ?_ ?_
    | refine LoadK_of rfl rfl ?_
    | refine LoadD_cel rfl rfl rfl rfl ?_
    | refine LoadD_of rfl ?_
    | refine StoreD_of rfl rfl rfl ?_
    | refine AppD_of rfl (by and_intros <;> first | rfl | decide) (by simp only [List.length_map, List.length_append, List.length_take, List.length_cons, List.length_nil]; first | (refine ⟨by omega, ?_⟩; refine Nat.le_trans (Nat.mul_le_mul_left _ (show _ ≤ 512 by decide)) ?_; omega) | fail) ?_
    | refine AppN_of rfl rfl (by and_intros <;> rfl) (by simp only [List.length_map, List.length_append, List.length_take, List.length_cons, List.length_nil]; first | (refine ⟨by omega, ?_⟩; refine Nat.le_trans (Nat.mul_le_mul_left _ (show _ ≤ 512 by decide)) ?_; omega) | fail) ?_
    | (show False; omega)
  all_goals
    conv => whnf
    exact OutA_plain rfl rfl rfl
theorem c_NewNet (hs : List Int) (far : Int) (hok : okL okT hs) (hl : hs.length ≤ 1048576) (h : okHomes hs far = true) : PC Try.prog false 17 [.sl (hs.map intC), .int .i64 far] (.tup [.agg [.int .i64 0, .own 0, .int .i64 far, .nil], .bool true]) [⟨false, 3, 1, hs.map intC⟩] := by
  refine pc_at Try.func17 rfl (by kernel_rfl) 15 [.cell 4 36, .tmp 5] rfl rfl ?_
  repeat' (conv => whnf); first
    | refine nameB_true ?_
    | refine nameB_false ?_
    | refine nameB_yes (by assumption) ?_
    | refine nameB_no (by assumption) ?_
    | refine nameB_dyes (by assumption) ?_
    | refine nameB_dno (by assumption) ?_
    | (refine nameB_dec (fun h => ?_) (fun h => ?_) <;> try simp only [List.length_map, List.length_take, List.length_append, List.length_drop, List.length_set, markList_length, midL_len, mkL_length, Int.toNat_natCast, fact_byte] at h)
    | (refine nameB_cases (fun h => ?_) (fun h => ?_) <;> try simp only [bne_iff_ne, ne_eq, bne_eq_false_iff_eq, beq_iff_eq, beq_eq_false_iff_ne, Bool.not_eq_true', Bool.not_eq_false', Bool.or_eq_true, Bool.or_eq_false_iff, List.length_map, List.length_take, List.length_append, List.length_drop, List.length_set, markList_length, midL_len, mkL_length, Int.toNat_natCast, fact_byte] at h)
    | refine splitB_true ?_
    | refine splitB_false ?_
    | (refine splitB_intro (fun h => ?_) (fun h => ?_) <;> subst h)
    | refine draw_text (by kernel_rfl) (by kernel_rfl) (by kernel_rfl) ?_
    | refine both_intro ?_ ?_
    | refine eitherB_l ?_
    | exact True.intro
    | (show Go.Ab.CallA _ _ _ _ _ _ _; first
        | refine Call0 (pc_bool (c_impl_areHomes hs far hok) h) rfl rfl ?_
        | refine CallF (c_Clone_int2 hs hl) rfl rfl rfl (Nat.le_of_ble_eq_true rfl) ?_)
    | refine ix_map_at hx ?_
    | refine ix_map_at hy ?_
    | refine sl_pre (by omega) (fun _ => rfl) ?_
    | refine sl_suf (by omega) (fun _ => rfl) ?_
    | (refine ix_map2 hx (by omega) (by (try simp only [List.length_take]); omega) (fun y hy => ?_); try simp only [Int.toNat_natCast] at hy)
    | (refine ix_map (by omega) (by (try simp only [List.length_take]); omega) (fun x hx => ?_); try simp only [Int.toNat_natCast] at hx)
    | refine side_and (side_of (by first | (and_intros <;> first | exact Nat.le_of_ble_eq_true rfl | rfl | omega | (simp only [List.length_map, List.length_append, List.length_replicate, List.length_take, List.length_cons, List.length_nil, List.length_drop, List.length_set, markList_length, midL_len, mkL_length]; omega) | exact bytes_ok (Nat.le_of_ble_eq_true rfl) (by omega) (by simp only [List.length_map, List.length_append, List.length_replicate, List.length_take, List.length_cons, List.length_nil, List.length_drop, List.length_set, markList_length, midL_len, mkL_length]; omega) | exact bytes_okN (Nat.le_of_ble_eq_true rfl) (by simp only [List.length_map, List.length_append, List.length_replicate, List.length_take, List.length_cons, List.length_nil, List.length_drop, List.length_set, markList_length, midL_len, mkL_length]; omega)) | fail)) ?_
    | refine nilB_intro (fun h => ?_) ?_
    | refine side_and (side_of (show Go.Ab.structOk _ _ = true by kernel_rfl)) ?_
    | refine side_and (side_of (map_len (fun _ => rfl))) ?_
    | refine side_and (side_of (map_one (fun _ => rfl) _)) ?_
    | refine side_and ?_ ?_
    | refine LoadK_of rfl rfl ?_
    | refine LoadD_cel rfl rfl rfl rfl ?_
    | refine LoadD_of rfl ?_
    | refine StoreD_of rfl rfl rfl ?_
    | refine AppD_of rfl (by and_intros <;> first | rfl | decide) (by simp only [List.length_map, List.length_append, List.length_take, List.length_cons, List.length_nil]; first | (refine ⟨by omega, ?_⟩; refine Nat.le_trans (Nat.mul_le_mul_left _ (show _ ≤ 512 by decide)) ?_; omega) | fail) ?_
    | refine AppN_of rfl rfl (by and_intros <;> rfl) (by simp only [List.length_map, List.length_append, List.length_take, List.length_cons, List.length_nil]; first | (refine ⟨by omega, ?_⟩; refine Nat.le_trans (Nat.mul_le_mul_left _ (show _ ≤ 512 by decide)) ?_; omega) | fail) ?_
    | (show False; omega)
  all_goals
    conv => whnf
    exact OutA_ids rfl rfl rfl ⟨⟨_, _, _, rfl, rfl⟩, trivial⟩ rfl (.inr (flat_one (flat_map (fun _ => rfl) _)))
end Go.Proofs.Ytkalobhgonaibaa
