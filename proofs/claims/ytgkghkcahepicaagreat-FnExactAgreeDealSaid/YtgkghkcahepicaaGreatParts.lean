/-
  What the functions on parts give.
  No condition.
-/
import Derived.Test.YtgkghkcahepicaaGreatCuts
namespace Go.Proofs.YtgkghkcahepicaaGreat
open Go.Ab
set_option linter.unusedSimpArgs false
set_option maxRecDepth 20000
set_option linter.unusedVariables false

theorem bl_trans : ∀ (x y z : List UInt8), Op.bytesLess x y = true → Op.bytesLess y z = true → Op.bytesLess x z = true
  | _, _, [], _, h => by simp [Op.bytesLess] at h
  | _, [], _ :: _, h, _ => by simp [Op.bytesLess] at h
  | [], _ :: _, _ :: _, _, _ => by simp [Op.bytesLess]
  | a :: x, b :: y, c :: z, h, h' => by
    have ih := bl_trans x y z
    simp only [Op.bytesLess, Bool.or_eq_true, Bool.and_eq_true, decide_eq_true_eq, beq_iff_eq] at h h' ⊢
    rcases h with h | ⟨rfl, h⟩
    · rcases h' with h' | ⟨rfl, h'⟩
      · exact .inl (UInt8.lt_trans h h')
      · exact .inl h
    · rcases h' with h' | ⟨rfl, h'⟩
      · exact .inl h'
      · exact .inr ⟨rfl, ih h h'⟩
theorem leqB_not {key x : List UInt8} : leqB key x = !Op.bytesLess key x := bl_leq x key
theorem partN_none {key : List UInt8} : ∀ {xs : List (List UInt8)} {p : List UInt8}, rising (some p) xs = true → Op.bytesLess key p = true → partN key xs = 0
  | [], _, _, _ => rfl
  | x :: xs, p, h, h' => by
    simp only [rising, Bool.and_eq_true] at h
    have hx : Op.bytesLess key x = true := bl_trans _ _ _ h' h.1.2
    have e : leqB key x = false := by rw [leqB_not, hx]; rfl
    have ih := partN_none h.2 hx
    unfold partN at ih ⊢
    rw [List.filter_cons_of_neg (by rw [e]; simp)]
    exact ih
def takeN (key : List UInt8) : List (List UInt8) → Nat
  | [] => 0
  | x :: xs => if leqB key x = true then takeN key xs + 1 else 0
theorem takeN_eq {key : List UInt8} : ∀ {xs : List (List UInt8)} {p : Option (List UInt8)}, rising p xs = true → takeN key xs = partN key xs
  | [], _, _ => rfl
  | x :: xs, p, h => by
    simp only [rising, Bool.and_eq_true] at h
    unfold takeN partN
    by_cases e : leqB key x = true
    · rw [if_pos e, List.filter_cons_of_pos e, List.length_cons]
      have := takeN_eq (key := key) h.2
      unfold partN at this
      omega
    · rw [if_neg e, List.filter_cons_of_neg e]
      have e2 : Op.bytesLess key x = true := by rw [leqB_not] at e; simpa using e
      have := partN_none h.2 e2
      unfold partN at this
      omega
theorem takeN_go {key : List UInt8} {xs : List (List UInt8)} {n N : Nat} {x : List UInt8} (h : n + takeN key (xs.drop n) = N) (hx : xs[n]? = some x) (e : leqB key x = true) : n + 1 + takeN key (xs.drop (n + 1)) = N := by
  rw [drop_get hx] at h
  simp only [takeN, e, if_true] at h
  omega
theorem takeN_stop {key : List UInt8} {xs : List (List UInt8)} {n N : Nat} {x : List UInt8} (h : n + takeN key (xs.drop n) = N) (hx : xs[n]? = some x) (e : leqB key x = false) : n = N := by
  rw [drop_get hx] at h
  simpa [takeN, e] using h
theorem takeN_end {key : List UInt8} {xs : List (List UInt8)} {n N : Nat} (h : n + takeN key (xs.drop n) = N) (hk : ¬ (n : Int) < xs.length) : n = N := by
  rw [List.drop_eq_nil_of_le (by omega)] at h
  exact h
theorem c_spec_l15Part (xs : List (List UInt8)) (key : List UInt8) (hok : okL okS xs) : PC Tryz.prog false 181 [.sl (xs.map strC), .str key] (.int .i64 (takeN key xs : Nat)) [] := by
  have hl := hok.1
  refine pc_at Tryz.func181 rfl (by kernel_rfl) 21 [.tmp 4] rfl rfl ?_
  repeat' (conv => whnf); first
    | (refine nameB_cases (b := leqB key x) (fun h => ?_) (fun h => ?_))
    | refine nameB_true ?_
    | refine nameB_false ?_
    | refine nameB_yes (by assumption) ?_
    | refine nameB_no (by assumption) ?_
    | refine nameB_dyes (by assumption) ?_
    | refine nameB_dno (by assumption) ?_
    | (refine nameB_dec (fun h => ?_) (fun h => ?_) <;> try simp only [lensB, midL_len, mkL_length, Int.toNat_natCast, fact_byte] at h)
    | (refine nameB_cases (fun h => ?_) (fun h => ?_) <;> try simp only [bne_iff_ne, ne_eq, bne_eq_false_iff_eq, beq_iff_eq, beq_eq_false_iff_ne, Bool.not_eq_true', Bool.not_eq_false', Bool.or_eq_true, Bool.or_eq_false_iff, lensB, midL_len, mkL_length, Int.toNat_natCast, fact_byte] at h)
    | refine splitB_true ?_
    | refine splitB_false ?_
    | (refine splitB_intro (fun h => ?_) (fun h => ?_) <;> subst h)
    | refine draw_text (by kernel_rfl) (by kernel_rfl) (by kernel_rfl) ?_
    | refine both_intro ?_ ?_
    | refine eitherB_l ?_
    | exact True.intro
    | (show Go.Ab.Loop _ _ _; (refine Loop_at [0, 1] [] (Nat) (fun n => n + takeN key (xs.drop n) = takeN key xs ∧ n ≤ xs.length) (fun n => [(5, .int .i64 (n : Nat))]) (fun n => []) (fun n => xs.length - n) 0 ⟨by first | (simp_all <;> fail) | rfl | fail, trivial⟩ trivial (by (try dsimp only); first | (exact ⟨Nat.zero_add _, by omega⟩) | fail) ?_; (conv => whnf); refine side_and (side_of (by first | exact fun n => rfl | exact fun n => by simp [headOk, closedE, closedO, closedL, AV.closed, hcap.closed, hasId, AObj.box, BK.ofB])) ?_; rintro n hT; try dsimp only at hT))
    | (show Go.Ab.Again _ _ _ _ _ _ _ _ _ _ _; refine Again_of (n + 1) ⟨by first | rfl | exact i64_next (by omega) | (simp_all <;> fail) | fail, trivial⟩ trivial (by first | (and_intros <;> first | rfl | trivial) | fail) (by first | (and_intros <;> first | rfl | trivial) | fail) rfl rfl rfl (by (try dsimp only); first | (exact ⟨takeN_go hT.1 hx h, by omega⟩) | fail) (show _ < _ by (try dsimp only); omega))
    | refine ix_map_at hx ?_
    | refine ix_map_at hy ?_
    | refine sl_pre (by omega) (fun _ => rfl) ?_
    | refine sl_suf (by omega) (fun _ => rfl) ?_
    | (refine ix_map2 hx (by omega) (by (try simp only [List.length_take]); omega) (fun y hy => ?_); try simp only [Int.toNat_natCast] at hy)
    | (refine ix_map (by omega) (by (try simp only [List.length_take]); omega) (fun x hx => ?_); try simp only [Int.toNat_natCast] at hx)
    | refine side_and (side_of (by first | (and_intros <;> first | exact Nat.le_of_ble_eq_true rfl | rfl | omega | (simp only [lensB, lensC, List.length_replicate, midL_len, mkL_length]; omega) | exact bytes_ok (Nat.le_of_ble_eq_true rfl) (by omega) (by simp only [lensB, lensC, List.length_replicate, midL_len, mkL_length]; omega) | exact bytes_okN (Nat.le_of_ble_eq_true rfl) (by simp only [lensB, lensC, List.length_replicate, midL_len, mkL_length]; omega)) | fail)) ?_
    | refine nilB_intro (fun h => ?_) ?_
    | refine side_and (side_of (show Go.Ab.structOk _ _ = true by kernel_rfl)) ?_
    | refine side_and (side_of (map_len (fun _ => rfl))) ?_
    | refine side_and (side_of (map_one (fun _ => rfl) _)) ?_
    | refine side_and ?_ ?_
    | refine LoadK_of rfl rfl ?_
    | refine LoadD_cel rfl rfl rfl rfl ?_
    | refine LoadD_of rfl ?_
    | refine StoreD_of rfl rfl rfl ?_
    | refine AppD_of rfl (by and_intros <;> first | rfl | decide) (by simp only [lensC]; first | (refine ⟨by omega, ?_⟩; refine Nat.le_trans (Nat.mul_le_mul_left _ (show _ ≤ 512 by decide)) ?_; omega) | fail) ?_
    | refine AppN_of rfl rfl (by and_intros <;> rfl) (by simp only [lensC]; first | (refine ⟨by omega, ?_⟩; refine Nat.le_trans (Nat.mul_le_mul_left _ (show _ ≤ 512 by decide)) ?_; omega) | fail) ?_
    | (show False; omega)
  all_goals
    conv => whnf
    refine OutA_plain rfl rfl ?_
    first
    | exact congrArg (fun n : Nat => AV.int .i64 (n : Int)) (takeN_stop hT.1 hx h)
    | exact congrArg (fun n : Nat => AV.int .i64 (n : Int)) (takeN_end hT.1 (by assumption))
def okPart (xs : List (List UInt8)) (key : List UInt8) : Bool := okCuts xs && okKey key
end Go.Proofs.YtgkghkcahepicaaGreat
