/-
  Deals whose groups agree: what the two ways to see it give.
  No condition.
-/
import Derived.Test.YtgkghkcahepicaaGreatAgree1
namespace Go.Proofs.YtgkghkcahepicaaGreat
open Go.Ab
set_option linter.unusedSimpArgs false
set_option maxRecDepth 20000
set_option maxHeartbeats 4000000
set_option linter.unusedVariables false

theorem c_IndexFunc_Told (xs : List ToldT) (f : Nat) (caps : List AV) (q : ToldT → Bool) (hl : xs.length ≤ 9223372036854775807) (hcap : Caps caps) (hq : ∀ x ∈ xs, PC Tryz.prog false f (.agg x.cells :: caps) (.bool (q x)) []) : PC Tryz.prog false 143 [.sl (xs.map ToldT.cells), .fn f caps] (.int .i64 (idxF q 0 xs)) [] := by
  refine pc_at Tryz.func143 rfl (by kernel_rfl) 19 [.tmp 4] rfl rfl ?_
  repeat' (conv => whnf); first
    | (refine nameB_dec (fun h => ?_) (fun h => ?_) <;> try simp only [lensB, midL_len, mkL_length, Int.toNat_natCast, fact_byte] at h)
    | (refine nameB_cases (fun h => ?_) (fun h => ?_) <;> try simp only [bne_iff_ne, ne_eq, bne_eq_false_iff_eq, beq_iff_eq, beq_eq_false_iff_ne, Bool.not_eq_true', Bool.not_eq_false', Bool.or_eq_true, Bool.or_eq_false_iff, lensB, midL_len, mkL_length, Int.toNat_natCast, fact_byte] at h)
    | refine splitB_true ?_
    | refine splitB_false ?_
    | (show Go.Ab.Loop _ _ _; (refine Loop_at [0, 1, 7] [] (Nat) (fun k => idxF q k (xs.drop k) = idxF q 0 xs ∧ k ≤ xs.length) (fun k => [(8, .int .i64 (k : Nat))]) (fun k => []) (fun k => xs.length - k) 0 ⟨by first | (simp_all <;> fail) | rfl | fail, trivial⟩ trivial (by (try dsimp only); first | trivial | (refine ⟨?_, by omega⟩; simp <;> fail) | (simp <;> fail) | fail) ?_; (conv => whnf); refine side_and (side_of (by first | exact fun k => rfl | exact fun k => by simp [headOk, closedE, closedO, closedL, AV.closed, hcap.closed, hasId, AObj.box, BK.ofB])) ?_; rintro k hT; try dsimp only at hT))
    | (show Go.Ab.Again _ _ _ _ _ _ _ _ _ _ _; refine Again_of (k + 1) ⟨by first | rfl | exact i64_next (by omega) | (simp_all <;> fail) | fail, trivial⟩ trivial (by first | (and_intros <;> first | rfl | trivial) | fail) (by first | (and_intros <;> first | rfl | trivial) | fail) rfl rfl rfl (by (try dsimp only); (refine ⟨?_, by omega⟩; first | (rw [← hT.1, drop_get hx]; simp_all [idxF, List.all_cons, List.any_cons] <;> fail) | (have hg := drop_get hx; simp_all [idxF, List.all_cons, List.any_cons] <;> fail) | fail)) (show _ < _ by (try dsimp only); omega))
    | (show Go.Ab.CallA _ _ _ _ _ _ _; refine Call0 (hq x (List.mem_of_getElem? hx)) (congrArg (List.cons _) (hcap.same _)) (hcap.known _) ?_)
    | (refine ix_map (by omega) (by (try simp only [List.length_take]); omega) (fun x hx => ?_); try simp only [Int.toNat_natCast] at hx)
    | refine side_and (side_of (by first | (and_intros <;> first | exact Nat.le_of_ble_eq_true rfl | rfl | omega | (simp only [lensB, lensC, List.length_replicate, midL_len, mkL_length]; omega) | exact bytes_ok (Nat.le_of_ble_eq_true rfl) (by omega) (by simp only [lensB, lensC, List.length_replicate, midL_len, mkL_length]; omega) | exact bytes_okN (Nat.le_of_ble_eq_true rfl) (by simp only [lensB, lensC, List.length_replicate, midL_len, mkL_length]; omega)) | fail)) ?_
  all_goals
    conv => whnf
    refine OutA_plain rfl rfl ?_
    first
    | (simp_all [idxF, named, AV.sub, AV.sub.subL]; done)
    | (rw [← hT.1, drop_get hx]; simp_all [idxF, List.all_cons, List.any_cons, named, AV.sub, AV.sub.subL]; done)
    | (have hg := drop_get hx; simp_all [idxF, List.all_cons, List.any_cons, named, AV.sub, AV.sub.subL]; done)
    | (rw [List.drop_eq_nil_of_le (by omega)] at hT; simp_all [idxF, named, AV.sub, AV.sub.subL]; done)
theorem c_ContainsFunc_Told (xs : List ToldT) (f : Nat) (caps : List AV) (q : ToldT → Bool) (hl : xs.length ≤ 9223372036854775807) (hcap : Caps caps) (hq : ∀ x ∈ xs, PC Tryz.prog false f (.agg x.cells :: caps) (.bool (q x)) []) : PC Tryz.prog false 93 [.sl (xs.map ToldT.cells), .fn f caps] (.bool (xs.any q)) [] := by
  refine pc_at Tryz.func93 rfl (by kernel_rfl) 9 [.tmp 4] rfl rfl ?_
  repeat' (conv => whnf); first
    | (refine nameB_dec (fun h => ?_) (fun h => ?_) <;> try simp only [lensB, midL_len, mkL_length, Int.toNat_natCast, fact_byte] at h)
    | (show Go.Ab.CallA _ _ _ _ _ _ _; refine Call0 (c_IndexFunc_Told xs f caps q hl hcap hq) (congrArg (fun l => [AV.sl _, AV.fn f l]) (hcap.same1 _)) ((Bool.and_true _).trans (hcap.known1 _)) ?_)
  all_goals
    conv => whnf
    refine OutA_plain rfl rfl ?_
    first
    | (simp_all [idxF_pos, named, AV.sub, AV.sub.subL]; done)
    | (rw [← hT.1, drop_get hx]; simp_all [idxF_pos, List.all_cons, List.any_cons, named, AV.sub, AV.sub.subL]; done)
    | (have hg := drop_get hx; simp_all [idxF_pos, List.all_cons, List.any_cons, named, AV.sub, AV.sub.subL]; done)
    | (rw [List.drop_eq_nil_of_le (by omega)] at hT; simp_all [idxF_pos, named, AV.sub, AV.sub.subL]; done)
theorem tells_yes {t : Int} {ss : List StateT} {k : Nat} {s : StateT} {L : List (List AV)} (hx : ss[k]? = some s) (h : isTd t s = true) (hL : L = [(toldS s t).cells]) : (tellsS t (ss.take k)).map ToldT.cells ++ L = (tellsS t (ss.take (k + 1))).map ToldT.cells := fil_yes (p := isTd t) (f := fun s => toldS s t) (C := ToldT.cells) hx h hL
theorem tells_no {t : Int} {ss : List StateT} {k : Nat} {s : StateT} (hx : ss[k]? = some s) (h : isTd t s = false) : (tellsS t (ss.take k)).map ToldT.cells = (tellsS t (ss.take (k + 1))).map ToldT.cells := fil_no (p := isTd t) (f := fun s => toldS s t) (C := ToldT.cells) hx h
theorem isOp_of {t : Int} {s : StateT} (h1 : isTd t s = false) (h2 : isHd t s = false) : isOp t s = true := by unfold isOp; rw [h1, h2]; rfl
theorem isOp_t {t : Int} {s : StateT} (h1 : isTd t s = true) : isOp t s = false := by unfold isOp; rw [h1]; rfl
theorem isOp_h {t : Int} {s : StateT} (h2 : isHd t s = true) : isOp t s = false := by unfold isOp; rw [h2]; simp
theorem i64_up {n m : Nat} (h : n ≤ 4194304) (e : m = n + 1) : IntKind.i64.wrap ((n : Int) + 1) = (m : Int) := by rw [i64_wrap (by omega) (by omega), e]; omega
theorem c_impl_agrees (ss : List StateT) (t : Int) (hl : ss.length ≤ 1048576) (hs : ∀ s ∈ ss, s.ok ∧ okStateS s = true) : PC Tryz.prog false 55 [.sl (ss.map StateT.cells), .int .i64 t] (.bool (agB t ss)) [] := by
  refine pc_at Tryz.func55 rfl (by kernel_rfl) 50 [.tmp 4] rfl rfl ?_
  repeat' (conv => whnf); first
    | (show Go.Ab.drawA _ _ _ _ _; refine draw_exp (.take 1 (.take 3 (.fork 0 (.fork 2 (.fork 4 (.fork 5 (.fork 6 (.fork 7 (.fork 8 (.done) (.stop)) (.stop)) (.stop)) (.stop)) (.stop)) (.stop)) (.fork 2 (.fork 0 (.fork 4 (.fork 5 (.fork 6 (.fork 7 (.fork 8 (.done) (.stop)) (.stop)) (.stop)) (.stop)) (.stop)) (.fork 4 (.fork 0 (.fork 5 (.fork 6 (.fork 7 (.fork 8 (.done) (.stop)) (.stop)) (.stop)) (.stop)) (.fork 5 (.fork 0 (.fork 6 (.fork 7 (.fork 8 (.done) (.stop)) (.stop)) (.stop)) (.fork 6 (.fork 0 (.fork 7 (.fork 8 (.done) (.stop)) (.stop)) (.stop)) (.stop))) (.stop))) (.stop))) (.stop))))) (by kernel_rfl) (by kernel_rfl) (by kernel_rfl) ?_)
    | (refine ix_as (f := StateT.cells) (m := k) rfl (by omega) (fun x hx => ?_))
    | (refine ix_as (f := ToldT.cells) (m := bsPos (tK t) x.Told) rfl (bsHit_lt (by rw [told_hitS (hs x (List.mem_of_getElem? hx)).2]; assumption)) (fun y hy => ?_); have he := told_atS (hs x (List.mem_of_getElem? hx)).2 (by rw [told_hitS (hs x (List.mem_of_getElem? hx)).2]; assumption) hy; subst he)
    | (rw [told_hitS (hs x (List.mem_of_getElem? hx)).2])
    | (rw [held_hitS (hs x (List.mem_of_getElem? hx)).2])
    | (refine nameB_cases (b := isTd t x) (fun h => ?_) (fun h => ?_))
    | (refine nameB_cases (b := isHd t x) (fun h => ?_) (fun h => ?_))
    | refine side_and (side_of (one_lenC rfl rfl)) ?_
    | refine side_and (side_of (by first | (and_intros <;> first | exact Nat.le_of_ble_eq_true rfl | rfl | (intro e; exact absurd (AV.own.inj e) (by decide)) | (intro e; exact AV.noConfusion e)) | fail)) ?_
    | refine side_and (side_of (app_boundC (L := (tellsS t (ss.take k)).map ToldT.cells) rfl (by (have hq := tells_len t (ss.take k); rw [List.length_take] at hq; simp only [List.length_map]; omega)) (Nat.le_of_ble_eq_true rfl))) ?_
    | refine nameB_true ?_
    | refine nameB_false ?_
    | (refine nameB_dec (fun h => ?_) (fun h => ?_) <;> try simp only [lensB, midL_len, mkL_length, Int.toNat_natCast, fact_byte] at h)
    | (refine nameB_cases (fun h => ?_) (fun h => ?_) <;> try simp only [bne_iff_ne, ne_eq, bne_eq_false_iff_eq, beq_iff_eq, beq_eq_false_iff_ne, Bool.not_eq_true', Bool.not_eq_false', Bool.or_eq_true, Bool.or_eq_false_iff, lensB, midL_len, mkL_length, Int.toNat_natCast, fact_byte] at h)
    | refine splitB_true ?_
    | refine splitB_false ?_
    | refine both_intro ?_ ?_
    | exact True.intro
    | (show Go.Ab.Loop _ _ _; (refine Loop_nilB 4112 1 121 3 0 rfl rfl rfl (by decide) ?_; refine Loop_at [1, 5, 6, 14, 15] [] (Nat) (fun k => k ≤ ss.length) (fun k => [(16, .int .i64 (k : Nat))]) (fun k => [(4112, ⟨true, 59, 1, [[.own 1]]⟩), (8192, ⟨true, 3, 1, [[.int .i64 (openN t (ss.take k) : Nat)]]⟩), (1, ⟨false, 121, 3, (tellsS t (ss.take k)).map ToldT.cells⟩)]) (fun k => ss.length - k) 0 ⟨by first | (simp_all <;> fail) | rfl | fail, trivial⟩ ⟨by first | rfl | first | rfl | exact congrArg (fun e => some (AObj.mk _ _ _ e)) (tells_yes hx (by assumption) rfl) | exact congrArg (fun e => some (AObj.mk _ _ _ e)) (tells_no hx (by assumption)) | exact congrArg (fun n : Int => some (AObj.mk .box 3 1 [[.int .i64 n]])) (congrArg (fun n : Nat => (n : Int)) (open_no hx (isOp_t (by assumption))).symm) | exact congrArg (fun n : Int => some (AObj.mk .box 3 1 [[.int .i64 n]])) (congrArg (fun n : Nat => (n : Int)) (open_no hx (isOp_h (by assumption))).symm) | exact congrArg (fun n : Int => some (AObj.mk .box 3 1 [[.int .i64 n]])) (i64_up (by have := openN_le t (ss.take k); rw [List.length_take] at this; omega) (open_yes hx (isOp_of (by assumption) (by assumption)))) | fail | fail, by first | rfl | first | rfl | exact congrArg (fun e => some (AObj.mk _ _ _ e)) (tells_yes hx (by assumption) rfl) | exact congrArg (fun e => some (AObj.mk _ _ _ e)) (tells_no hx (by assumption)) | exact congrArg (fun n : Int => some (AObj.mk .box 3 1 [[.int .i64 n]])) (congrArg (fun n : Nat => (n : Int)) (open_no hx (isOp_t (by assumption))).symm) | exact congrArg (fun n : Int => some (AObj.mk .box 3 1 [[.int .i64 n]])) (congrArg (fun n : Nat => (n : Int)) (open_no hx (isOp_h (by assumption))).symm) | exact congrArg (fun n : Int => some (AObj.mk .box 3 1 [[.int .i64 n]])) (i64_up (by have := openN_le t (ss.take k); rw [List.length_take] at this; omega) (open_yes hx (isOp_of (by assumption) (by assumption)))) | fail | fail, by first | rfl | first | rfl | exact congrArg (fun e => some (AObj.mk _ _ _ e)) (tells_yes hx (by assumption) rfl) | exact congrArg (fun e => some (AObj.mk _ _ _ e)) (tells_no hx (by assumption)) | exact congrArg (fun n : Int => some (AObj.mk .box 3 1 [[.int .i64 n]])) (congrArg (fun n : Nat => (n : Int)) (open_no hx (isOp_t (by assumption))).symm) | exact congrArg (fun n : Int => some (AObj.mk .box 3 1 [[.int .i64 n]])) (congrArg (fun n : Nat => (n : Int)) (open_no hx (isOp_h (by assumption))).symm) | exact congrArg (fun n : Int => some (AObj.mk .box 3 1 [[.int .i64 n]])) (i64_up (by have := openN_le t (ss.take k); rw [List.length_take] at this; omega) (open_yes hx (isOp_of (by assumption) (by assumption)))) | fail | fail, trivial⟩ (by (try dsimp only); first | (exact Nat.zero_le _) | fail) ?_; (conv => whnf); refine side_and (side_of (by first | exact fun k => rfl | exact fun k => by simp [headOk, closedE, closedO, closedL, AV.closed, hcap.closed, hasId, AObj.box, BK.ofB])) ?_; rintro k hT; try dsimp only at hT))
    | (show Go.Ab.Again _ _ _ _ _ _ _ _ _ _ _; refine Again_of (k + 1) ⟨by first | rfl | exact i64_next (by omega) | (simp_all <;> fail) | fail, trivial⟩ ⟨by first | rfl | first | rfl | exact congrArg (fun e => some (AObj.mk _ _ _ e)) (tells_yes hx (by assumption) rfl) | exact congrArg (fun e => some (AObj.mk _ _ _ e)) (tells_no hx (by assumption)) | exact congrArg (fun n : Int => some (AObj.mk .box 3 1 [[.int .i64 n]])) (congrArg (fun n : Nat => (n : Int)) (open_no hx (isOp_t (by assumption))).symm) | exact congrArg (fun n : Int => some (AObj.mk .box 3 1 [[.int .i64 n]])) (congrArg (fun n : Nat => (n : Int)) (open_no hx (isOp_h (by assumption))).symm) | exact congrArg (fun n : Int => some (AObj.mk .box 3 1 [[.int .i64 n]])) (i64_up (by have := openN_le t (ss.take k); rw [List.length_take] at this; omega) (open_yes hx (isOp_of (by assumption) (by assumption)))) | fail | fail, by first | rfl | first | rfl | exact congrArg (fun e => some (AObj.mk _ _ _ e)) (tells_yes hx (by assumption) rfl) | exact congrArg (fun e => some (AObj.mk _ _ _ e)) (tells_no hx (by assumption)) | exact congrArg (fun n : Int => some (AObj.mk .box 3 1 [[.int .i64 n]])) (congrArg (fun n : Nat => (n : Int)) (open_no hx (isOp_t (by assumption))).symm) | exact congrArg (fun n : Int => some (AObj.mk .box 3 1 [[.int .i64 n]])) (congrArg (fun n : Nat => (n : Int)) (open_no hx (isOp_h (by assumption))).symm) | exact congrArg (fun n : Int => some (AObj.mk .box 3 1 [[.int .i64 n]])) (i64_up (by have := openN_le t (ss.take k); rw [List.length_take] at this; omega) (open_yes hx (isOp_of (by assumption) (by assumption)))) | fail | fail, by first | rfl | first | rfl | exact congrArg (fun e => some (AObj.mk _ _ _ e)) (tells_yes hx (by assumption) rfl) | exact congrArg (fun e => some (AObj.mk _ _ _ e)) (tells_no hx (by assumption)) | exact congrArg (fun n : Int => some (AObj.mk .box 3 1 [[.int .i64 n]])) (congrArg (fun n : Nat => (n : Int)) (open_no hx (isOp_t (by assumption))).symm) | exact congrArg (fun n : Int => some (AObj.mk .box 3 1 [[.int .i64 n]])) (congrArg (fun n : Nat => (n : Int)) (open_no hx (isOp_h (by assumption))).symm) | exact congrArg (fun n : Int => some (AObj.mk .box 3 1 [[.int .i64 n]])) (i64_up (by have := openN_le t (ss.take k); rw [List.length_take] at this; omega) (open_yes hx (isOp_of (by assumption) (by assumption)))) | fail | fail, trivial⟩ (by first | (and_intros <;> first | rfl | trivial) | fail) (by first | (and_intros <;> first | rfl | trivial) | fail) rfl rfl rfl (by (try dsimp only); first | ((show k + 1 ≤ _; omega)) | fail) (show _ < _ by (try dsimp only); omega))
    | (show Go.Ab.CallA _ _ _ _ _ _ _; first
        | refine Call0 (c_impl_State_findTold x t (hs x (List.mem_of_getElem? hx)).1) rfl rfl ?_
        | refine Call0 (c_impl_State_findHeld x t (hs x (List.mem_of_getElem? hx)).1) rfl rfl ?_
        | refine Call0 (c_ContainsFunc_Told (tellsS t (ss.take k)) 94 [.rp [.sl ((tellsS t (ss.take k)).map ToldT.cells)], .rp [.int .i64 (openN t (ss.take k) : Nat)]] (badT (tellsS t (ss.take k)) (decide ((openN t (ss.take k) : Int) > 0))) (by have hq := tells_len t (ss.take k); rw [List.length_take] at hq; omega) ⟨fun _ => rfl, fun _ => rfl, fun _ => rfl, fun _ => rfl, fun _ => rfl⟩ (fun x hx => c_impl_agrees_1 _ _ x hx)) rfl rfl ?_)
  all_goals
    conv => whnf
    refine OutA_plain rfl rfl ?_
    have e : k = ss.length := by omega
    subst e
    rw [List.take_length] at h
    refine congrArg AV.bool ?_
    unfold agB
    rw [h]
    rfl
end Go.Proofs.YtgkghkcahepicaaGreat
