/-
  Programs run in turn: what the program's function gives.
  No condition.
-/
import Derived.Test.YthbheejeloomjaaGreatDoorTurn2
namespace Go.Proofs.YthbheejeloomjaaGreatDoor
open Go.Ab
set_option linter.unusedSimpArgs false
set_option maxRecDepth 20000
set_option maxHeartbeats 4000000
set_option linter.unusedVariables false

theorem c_IndexFunc_OpS (xs : List (List OpT)) (f : Nat) (caps : List AV) (q : (List OpT) → Bool) (hl : xs.length ≤ 9223372036854775807) (hcap : Caps caps) (hq : ∀ x ∈ xs, PC Tryz.prog false f (.sl (x.map OpT.cells) :: caps) (.bool (q x)) []) : PC Tryz.prog false 84 [.sl (xs.map (sC OpT.cells)), .fn f caps] (.int .i64 (idxF q 0 xs)) [] := by
  refine pc_at Tryz.func84 rfl (by kernel_rfl) 19 [.tmp 4] rfl rfl ?_
  repeat' (conv => whnf); first
 | (refine nameB_dec (fun h => ?_) (fun h => ?_) <;> try simp only [lensB] at h)
 | (refine nameB_cases (fun h => ?_) (fun h => ?_) <;> try simp only [nmL, lensB] at h)
 | refine splitB_true ?_
 | refine splitB_false ?_
 | ((refine Loop_at [0, 1, 7] [] (Nat) (fun k => idxF q k (xs.drop k) = idxF q 0 xs ∧ k ≤ xs.length) (fun k => [(8, .int .i64 (k : Nat))]) (fun k => []) (fun k => xs.length - k) 0 ⟨by first | (simp_all <;> fail) | rfl | fail, trivial⟩ trivial (by (try dsimp only); first | trivial | (refine ⟨?_, by omega⟩; simp <;> fail) | (simp <;> fail) | fail) ?_; (conv => whnf); refine side_and (side_of (by first | exact fun k => rfl | exact fun k => by simp [headOk, closedE, closedO, closedL, AV.closed, hcap.closed, hasId, AObj.box, BK.ofB])) ?_; rintro k hT; try dsimp only at hT))
 | (refine Again_of (k + 1) ⟨by first | rfl | exact i64_next (by omega) | (simp_all <;> fail) | fail, trivial⟩ trivial (by first | (and_intros <;> first | rfl | trivial) | fail) (by first | (and_intros <;> first | rfl | trivial) | fail) rfl rfl rfl (by (try dsimp only); (refine ⟨?_, by omega⟩; first | (rw [← hT.1, drop_get hx]; simp_all [idxF, List.all_cons, List.any_cons] <;> fail) | (have hg := drop_get hx; simp_all [idxF, List.all_cons, List.any_cons] <;> fail) | fail)) (show _ < _ by (try dsimp only); omega))
 | refine Call0 (hq x (List.mem_of_getElem? hx)) (congrArg (List.cons _) (hcap.same _)) (hcap.known _) ?_
 | (refine ix_map (by omega) (by (try simp only [List.length_take]); omega) (fun x hx => ?_); try simp only [Int.toNat_natCast] at hx)
 | refine side_and (side_of (by first | (and_intros <;> first | exact Nat.le_of_ble_eq_true rfl | rfl | omega | (simp only [lensB, lensC]; omega) | exact bytes_ok (Nat.le_of_ble_eq_true rfl) (by omega) (by simp only [lensB, lensC]; omega) | exact bytes_okN (Nat.le_of_ble_eq_true rfl) (by simp only [lensB, lensC]; omega)) | fail)) ?_
 | fail
  all_goals
    conv => whnf
    refine OutA_plain rfl rfl ?_
    first
    | (simp_all [idxF, named, AV.sub, AV.sub.subL]; done)
    | (rw [← hT.1, drop_get hx]; simp_all [idxF, List.all_cons, List.any_cons, named, AV.sub, AV.sub.subL]; done)
    | (have hg := drop_get hx; simp_all [idxF, List.all_cons, List.any_cons, named, AV.sub, AV.sub.subL]; done)
    | (rw [List.drop_eq_nil_of_le (by omega)] at hT; simp_all [idxF, named, AV.sub, AV.sub.subL]; done)
theorem c_ContainsFunc_OpS (xs : List (List OpT)) (f : Nat) (caps : List AV) (q : (List OpT) → Bool) (hl : xs.length ≤ 9223372036854775807) (hcap : Caps caps) (hq : ∀ x ∈ xs, PC Tryz.prog false f (.sl (x.map OpT.cells) :: caps) (.bool (q x)) []) : PC Tryz.prog false 54 [.sl (xs.map (sC OpT.cells)), .fn f caps] (.bool (xs.any q)) [] := by
  refine pc_at Tryz.func54 rfl (by kernel_rfl) 9 [.tmp 4] rfl rfl ?_
  repeat' (conv => whnf); first
 | (refine nameB_dec (fun h => ?_) (fun h => ?_) <;> try simp only [lensB] at h)
 | refine Call0 (c_IndexFunc_OpS xs f caps q hl hcap hq) (congrArg (fun l => [AV.sl _, AV.fn f l]) (hcap.same1 _)) ((Bool.and_true _).trans (hcap.known1 _)) ?_
 | fail
  all_goals
    conv => whnf
    refine OutA_plain rfl rfl ?_
    first
    | (simp_all [idxF_pos, named, AV.sub, AV.sub.subL]; done)
    | (rw [← hT.1, drop_get hx]; simp_all [idxF_pos, List.all_cons, List.any_cons, named, AV.sub, AV.sub.subL]; done)
    | (have hg := drop_get hx; simp_all [idxF_pos, List.all_cons, List.any_cons, named, AV.sub, AV.sub.subL]; done)
    | (rw [List.drop_eq_nil_of_le (by omega)] at hT; simp_all [idxF_pos, named, AV.sub, AV.sub.subL]; done)
theorem all_of {ls : List (List OpT)} (h : (ls.any fun l => !okOps l) = false) : ∀ l ∈ ls, okOps l = true := fun l hl => by
  rw [List.any_eq_false] at h
  have := h l hl
  simpa using this
theorem all_ofB {ls : List (List OpT)} (h : (ls.any fun l => !okOps l) = false) : ls.all okOps = true := List.all_eq_true.2 (all_of h)
theorem all_ofN {ls : List (List OpT)} (h : (ls.any fun l => !okOps l) = true) : ls.all okOps = false := by
  rw [any_notN, Bool.not_eq_true'] at h
  exact h
theorem c_impl_RunInTurn_1 (l : List OpT) (hok : okL OpT.ok l) : PC Tryz.prog false 55 [.sl (l.map OpT.cells)] (.bool (!okOps l)) [] := by
  refine pc_at Tryz.func55 rfl (by kernel_rfl) 6 [.tmp 2] rfl rfl ?_
  repeat' (conv => whnf); first
 | (refine nameB_self (b := okOps l) ?_)
 | (refine nameB_cases (fun h => ?_) (fun h => ?_) <;> try simp only [nmL, lensB] at h)
 | refine Call0 (c_impl_GoodOps l hok) rfl rfl ?_
 | fail
  all_goals
    conv => whnf
    refine OutA_plain rfl rfl ?_
    first
    | rfl
    | (simp only [*, named, AV.sub, AV.sub.subL, Bool.and_true, Bool.and_false, Bool.true_and, Bool.false_and, Bool.or_true, Bool.or_false, Bool.true_or, Bool.false_or, Bool.not_true, Bool.not_false, if_true, if_false, decide_true, decide_false, Bool.false_eq_true, Bool.and_self]; done)
    | (simp_all [named, AV.sub, AV.sub.subL]; done)
    | (simp_all [named, AV.sub, AV.sub.subL] <;> (intros; omega))
    | (exfalso; omega)
theorem dD_yes {now : List WriteT} {l : List OpT} (h1 : decide ((runA now l).2.1 = 3) = true) (h2 : (putR now (runA now l).2.2).length ≤ 24) : dT now l = true := dT_yes (of_decide_eq_true h1) h2
theorem dD_no1 {now : List WriteT} {l : List OpT} (h1 : decide ((runA now l).2.1 = 3) = false) : dT now l = false := dT_no (.inl (of_decide_eq_false h1))
section
variable {rows : List WriteT} {ls : List (List OpT)} {k : Nat} {x : List OpT}
theorem now_yes (hx : ls[k]? = some x) (h1 : decide ((runA (turnF rows (ls.take k)).1 x).2.1 = 3) = true) (h2 : (putR (turnF rows (ls.take k)).1 (runA (turnF rows (ls.take k)).1 x).2.2).length ≤ 24) : resW (decide ((putR (turnF rows (ls.take k)).1 (runA (turnF rows (ls.take k)).1 x).2.2).length ≤ 24)) (putR (turnF rows (ls.take k)).1 (runA (turnF rows (ls.take k)).1 x).2.2) = (turnF rows (ls.take (k + 1))).1 := by
  rw [turn_now hx, nT_yes (dD_yes h1 h2), decide_eq_true h2]; rfl
theorem now_no (hx : ls[k]? = some x) (h : dT (turnF rows (ls.take k)).1 x = false) : (turnF rows (ls.take k)).1 = (turnF rows (ls.take (k + 1))).1 := by
  rw [turn_now hx, nT_no h]
end
theorem c_impl_RunInTurn (rows : List WriteT) (ls : List (List OpT)) (hr : okL WriteT.ok rows) (hrl : rows.length ≤ 1048576) (hok : okL (okL OpT.ok) ls) : PC Tryz.prog false 27 [.sl (rows.map WriteT.cells), .sl (ls.map (sC OpT.cells))] (.tup [.own 0, .own 1, .bool (turnB rows ls)]) [⟨false, 74, 3, (turnR rows ls).1.map WriteT.cells⟩, ⟨false, 4, 1, (turnR rows ls).2.map boolC⟩] := by
  refine pc_at Tryz.func27 rfl (by kernel_rfl) 65 [.tmp 4, .tmp 5, .tmp 6] rfl rfl ?_
  repeat' (conv => whnf); first
 | (refine ix_as (f := sC OpT.cells) (m := k) rfl (by omega) (fun x hx => ?_); have hxo : okOps x = true := (all_of (by assumption)) x (List.mem_of_getElem? hx))
 | (refine splitB_intro (b := decide ((runA (turnF rows (ls.take k)).1 x).2.1 = 3)) (fun h => ?_) (fun h => ?_) <;> rw [h])
 | (refine nameB_cases (b := okRw rows) (fun h => ?_) (fun h => ?_))
 | (refine nameB_cases (b := ls.any _) (fun h => ?_) (fun h => ?_))
 | refine side_and (side_of (one_lenC rfl rfl)) ?_
 | refine side_and (side_of (by first | (and_intros <;> first | exact Nat.le_of_ble_eq_true rfl | rfl | (intro e; exact absurd (AV.own.inj e) (by decide)) | (intro e; exact AV.noConfusion e)) | fail)) ?_
 | refine side_and (side_of (app_boundC (L := (turnF rows (ls.take k)).2.map boolC) rfl (by (have hq := turnF_len rows (ls.take k); rw [List.length_take] at hq; simp only [List.length_map]; omega)) (Nat.le_of_ble_eq_true rfl))) ?_
 | refine nameB_true ?_
 | refine nameB_false ?_
 | (refine nameB_dec (fun h => ?_) (fun h => ?_) <;> try simp only [lensB] at h)
 | refine splitB_true ?_
 | refine splitB_false ?_
 | ((refine Loop_nil 8 4097 4 1 rfl rfl (by decide) ?_; refine Loop_at [31, 32] [] (Nat) (fun k => okRw (turnF rows (ls.take k)).1 = true ∧ k ≤ ls.length) (fun k => [(33, .int .i64 (k : Nat)), (7, .own 12304), (8, .own 4097)]) (fun k => [(12304, ⟨false, 74, 3, (turnF rows (ls.take k)).1.map WriteT.cells⟩), (4097, ⟨false, 4, 1, (turnF rows (ls.take k)).2.map boolC⟩)]) (fun k => ls.length - k) 0 ⟨by first | exact congrArg (AV.int .i64) (by rw [i64_wrap (by omega) (by omega)]; omega) | rfl | fail, by first | rfl | exact congrArg (AV.int .i64) (by rw [i64_wrap (by omega) (by omega)]; omega) | fail, by first | rfl | exact congrArg (AV.int .i64) (by rw [i64_wrap (by omega) (by omega)]; omega) | fail, trivial⟩ ⟨by first | rfl | first | rfl | exact congrArg (fun e : List WriteT => some (AObj.mk _ _ _ (e.map WriteT.cells))) (now_yes hx (by assumption) (by assumption)) | exact congrArg (fun e : List WriteT => some (AObj.mk _ _ _ (e.map WriteT.cells))) (now_no hx (by first | exact dD_no1 (by assumption) | exact dT_no (.inr (by assumption)))) | exact congrArg (fun e => some (AObj.mk _ _ _ e)) (turn_done hx (by first | exact dD_yes (by assumption) (by assumption) | exact dD_no1 (by assumption) | exact dT_no (.inr (by assumption))) rfl) | fail | fail, by first | rfl | first | rfl | exact congrArg (fun e : List WriteT => some (AObj.mk _ _ _ (e.map WriteT.cells))) (now_yes hx (by assumption) (by assumption)) | exact congrArg (fun e : List WriteT => some (AObj.mk _ _ _ (e.map WriteT.cells))) (now_no hx (by first | exact dD_no1 (by assumption) | exact dT_no (.inr (by assumption)))) | exact congrArg (fun e => some (AObj.mk _ _ _ e)) (turn_done hx (by first | exact dD_yes (by assumption) (by assumption) | exact dD_no1 (by assumption) | exact dT_no (.inr (by assumption))) rfl) | fail | fail, trivial⟩ (by (try dsimp only); first | (exact ⟨by assumption, Nat.zero_le _⟩) | fail) ?_; (conv => whnf); refine side_and (side_of (by first | exact fun k => rfl | exact fun k => by simp [headOk, closedE, closedO, closedL, AV.closed, hcap.closed, hasId, AObj.box, BK.ofB])) ?_; rintro k hT; try dsimp only at hT))
 | refine Again_ren 36896 12304 (by decide) rfl ?_; (conv => whnf); refine Again_of (k + 1) ⟨by first | rfl | exact i64_next (by omega) | exact congrArg (AV.int .i64) (by rw [i64_wrap (by omega) (by omega)]; omega) | fail, by first | rfl | exact congrArg (AV.int .i64) (by rw [i64_wrap (by omega) (by omega)]; omega) | fail, by first | rfl | exact congrArg (AV.int .i64) (by rw [i64_wrap (by omega) (by omega)]; omega) | fail, trivial⟩ ⟨by first | rfl | first | rfl | exact congrArg (fun e : List WriteT => some (AObj.mk _ _ _ (e.map WriteT.cells))) (now_yes hx (by assumption) (by assumption)) | exact congrArg (fun e : List WriteT => some (AObj.mk _ _ _ (e.map WriteT.cells))) (now_no hx (by first | exact dD_no1 (by assumption) | exact dT_no (.inr (by assumption)))) | exact congrArg (fun e => some (AObj.mk _ _ _ e)) (turn_done hx (by first | exact dD_yes (by assumption) (by assumption) | exact dD_no1 (by assumption) | exact dT_no (.inr (by assumption))) rfl) | fail | fail, by first | rfl | first | rfl | exact congrArg (fun e : List WriteT => some (AObj.mk _ _ _ (e.map WriteT.cells))) (now_yes hx (by assumption) (by assumption)) | exact congrArg (fun e : List WriteT => some (AObj.mk _ _ _ (e.map WriteT.cells))) (now_no hx (by first | exact dD_no1 (by assumption) | exact dT_no (.inr (by assumption)))) | exact congrArg (fun e => some (AObj.mk _ _ _ e)) (turn_done hx (by first | exact dD_yes (by assumption) (by assumption) | exact dD_no1 (by assumption) | exact dT_no (.inr (by assumption))) rfl) | fail | fail, trivial⟩ (by first | (and_intros <;> first | rfl | trivial) | fail) (by first | (and_intros <;> first | rfl | trivial) | fail) rfl rfl rfl (by (try dsimp only); first | (exact ⟨by rw [turn_now hx]; exact nT_ok hT.1 hxo, by omega⟩) | fail) (show _ < _ by (try dsimp only); omega)
 | refine Again_of (k + 1) ⟨by first | rfl | exact i64_next (by omega) | exact congrArg (AV.int .i64) (by rw [i64_wrap (by omega) (by omega)]; omega) | fail, by first | rfl | exact congrArg (AV.int .i64) (by rw [i64_wrap (by omega) (by omega)]; omega) | fail, by first | rfl | exact congrArg (AV.int .i64) (by rw [i64_wrap (by omega) (by omega)]; omega) | fail, trivial⟩ ⟨by first | rfl | first | rfl | exact congrArg (fun e : List WriteT => some (AObj.mk _ _ _ (e.map WriteT.cells))) (now_yes hx (by assumption) (by assumption)) | exact congrArg (fun e : List WriteT => some (AObj.mk _ _ _ (e.map WriteT.cells))) (now_no hx (by first | exact dD_no1 (by assumption) | exact dT_no (.inr (by assumption)))) | exact congrArg (fun e => some (AObj.mk _ _ _ e)) (turn_done hx (by first | exact dD_yes (by assumption) (by assumption) | exact dD_no1 (by assumption) | exact dT_no (.inr (by assumption))) rfl) | fail | fail, by first | rfl | first | rfl | exact congrArg (fun e : List WriteT => some (AObj.mk _ _ _ (e.map WriteT.cells))) (now_yes hx (by assumption) (by assumption)) | exact congrArg (fun e : List WriteT => some (AObj.mk _ _ _ (e.map WriteT.cells))) (now_no hx (by first | exact dD_no1 (by assumption) | exact dT_no (.inr (by assumption)))) | exact congrArg (fun e => some (AObj.mk _ _ _ e)) (turn_done hx (by first | exact dD_yes (by assumption) (by assumption) | exact dD_no1 (by assumption) | exact dT_no (.inr (by assumption))) rfl) | fail | fail, trivial⟩ (by first | (and_intros <;> first | rfl | trivial) | fail) (by first | (and_intros <;> first | rfl | trivial) | fail) rfl rfl rfl (by (try dsimp only); first | (exact ⟨by rw [turn_now hx]; exact nT_ok hT.1 hxo, by omega⟩) | fail) (show _ < _ by (try dsimp only); omega)
 | refine Call0 (c_impl_isRows rows hr hrl) rfl rfl ?_
 | refine Call0 (c_ContainsFunc_OpS ls 55 [] (fun l => !okOps l) hok.1 ⟨fun _ => rfl, fun _ => rfl, fun _ => rfl, fun _ => rfl, fun _ => rfl⟩ (fun x hx => c_impl_RunInTurn_1 x (hok.2 x hx))) rfl rfl ?_
 | refine CallF (c_Clone_Write rows hrl) rfl rfl rfl (Nat.le_of_ble_eq_true rfl) ?_
 | refine CallF (c_impl_runAlone (turnF rows (ls.take k)).1 x (rw_ok hT.1).1.1 (rw_ok hT.1).1.2 (Nat.le_trans (rw_ok hT.1).2 (by decide)) hxo) rfl rfl rfl (Nat.le_of_ble_eq_true rfl) ?_
 | refine CallF (c_impl_putRows (turnF rows (ls.take k)).1 (runA (turnF rows (ls.take k)).1 x).2.2 (Nat.le_trans (rw_ok hT.1).2 (by decide)) (Nat.le_trans (runA_w hT.1 hxo).2 (by decide))) rfl rfl rfl (Nat.le_of_ble_eq_true rfl) ?_
 | fail
  all_goals
    conv => whnf
    first
    | (obtain ⟨e1, e2⟩ := turnR_yes (rows := rows) (ls := ls) (by assumption) (by omega) (all_ofB (by assumption)); have hke : ls.take k = ls := List.take_of_length_le (by omega); rw [e1, e2, hke]; exact OutA_ids rfl rfl rfl ⟨⟨_, _, _, rfl, rfl⟩, ⟨_, _, _, rfl, rfl⟩, trivial⟩ rfl (.inr (flat_two (flat_map (fun _ => rfl) _) (flat_map (fun _ => rfl) _))))
    | (obtain ⟨e1, e2⟩ := turnR_no (rows := rows) (ls := ls) (by first | exact .inl (by assumption) | exact .inr (.inl (by omega)) | exact .inr (.inr (all_ofN (by assumption)))); rw [e1, e2]; exact OutA_nil 4 1 74 3 rfl rfl (by decide) (OutA_nil 5 2 4 1 rfl rfl (by decide) (OutA_ids rfl rfl rfl ⟨⟨_, _, _, rfl, rfl⟩, ⟨_, _, _, rfl, rfl⟩, trivial⟩ rfl (.inr (flat_two (flat_map (fun _ => rfl) _) (flat_map (fun _ => rfl) _))))))
    | trace_state
end Go.Proofs.YthbheejeloomjaaGreatDoor
