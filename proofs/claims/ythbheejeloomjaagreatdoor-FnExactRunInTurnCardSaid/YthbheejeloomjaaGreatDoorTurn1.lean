/-
  Writes put into rows, with those that say 'gone' struck: what the functions give.
  No condition.
-/
import Derived.Test.YthbheejeloomjaaGreatDoorPutF
import Derived.Test.YthbheejeloomjaaGreatDoorTypesE
namespace Go.Proofs.YthbheejeloomjaaGreatDoor
open Go.Ab
set_option linter.unusedSimpArgs false
set_option maxRecDepth 20000
set_option maxHeartbeats 4000000
set_option linter.unusedVariables false

theorem c_DeleteFunc_Write (xs : List WriteT) (f : Nat) (caps : List AV) (q : WriteT → Bool) (hl : xs.length ≤ 1048576) (hcap : Caps caps) (hq : ∀ x ∈ xs, PC Tryz.prog false f (.agg x.cells :: caps) (.bool (q x)) []) : XC Tryz.prog 85 [⟨false, 74, 3, xs.map WriteT.cells⟩] [.own 0, .fn f caps] (.own 0) [⟨false, 74, 3, (xs.filter fun y => !q y).map WriteT.cells⟩] := by
  have hbd := idxF_bound q xs
  refine xc_at Tryz.func85 rfl (by kernel_rfl) 42 [.tmp 4] rfl rfl rfl ?_
  repeat' (conv => whnf); first
 | (show ∃ e, _ ∧ Go.Ab.LoadK _ _ _ _; refine ix_ownX (by (try simp only [Int.toNat_natCast]); omega) (fun x hx => ?_); try simp only [Int.toNat_natCast] at hx)
 | refine ix_ownX (by (try simp only [Int.toNat_natCast]); omega) (fun y hy => ?_)
 | refine nameB_true ?_
 | refine nameB_false ?_
 | (refine nameB_dec (fun h => ?_) (fun h => ?_) <;> try simp only [lensB] at h)
 | (refine nameB_cases (fun h => ?_) (fun h => ?_) <;> try simp only [nmL, lensB] at h)
 | refine splitB_true ?_
 | refine splitB_false ?_
 | ((refine Loop_at [0, 1] [] (Nat × Nat × List WriteT) (fun j => match j with | (i, j, es) => (es.length = xs.length ∧ i < j ∧ j ≤ xs.length) ∧ DelInv q xs es i j) (fun j => match j with | (i, j, es) => [(5, .int .i64 (i : Nat)), (6, .int .i64 (j : Nat))]) (fun j => match j with | (i, j, es) => [(0, ⟨false, 74, 3, es.map WriteT.cells⟩)]) (fun j => match j with | (i, j, es) => xs.length - j) ((idxF q 0 xs).toNat, (idxF q 0 xs).toNat + 1, xs) ⟨by first | first | exact congrArg (AV.int .i64) (by omega) | exact congrArg (AV.int .i64) (by rw [i64w (by omega) (by omega)]; omega) | exact congrArg (AV.int .i64) (by rw [i64w (by omega) (by omega)]; omega) | rfl | fail, by first | first | exact congrArg (AV.int .i64) (by omega) | exact congrArg (AV.int .i64) (by rw [i64w (by omega) (by omega)]; omega) | exact congrArg (AV.int .i64) (by rw [i64w (by omega) (by omega)]; omega) | rfl | fail, trivial⟩ ⟨by first | rfl | exact rfl | exact congrArg (fun e => some (AObj.mk _ _ _ e)) (by rw [List.map_set]; rfl) | fail | fail, trivial⟩ (by (try dsimp only); first | (exact ⟨(DelInv.start (by assumption)).arith, DelInv.start (by assumption)⟩) | fail) ?_; (conv => whnf); refine side_and (side_of (by first | exact fun ⟨i, j, es⟩ => rfl | exact fun ⟨i, j, es⟩ => by simp [headOk, closedE, closedO, closedL, AV.closed, hcap.closed, hasId, AObj.box, BK.ofB])) ?_; rintro ⟨i, j, es⟩ hT; try dsimp only at hT))
 | refine Again_of (i + 1, j + 1, es.set i x) ⟨by first | rfl | exact i64_next (by omega) | first | exact congrArg (AV.int .i64) (by omega) | exact congrArg (AV.int .i64) (by rw [i64w (by omega) (by omega)]; omega) | exact congrArg (AV.int .i64) (by rw [i64w (by omega) (by omega)]; omega) | fail, by first | rfl | exact i64_next (by omega) | first | exact congrArg (AV.int .i64) (by omega) | exact congrArg (AV.int .i64) (by rw [i64w (by omega) (by omega)]; omega) | exact congrArg (AV.int .i64) (by rw [i64w (by omega) (by omega)]; omega) | fail, trivial⟩ ⟨by first | rfl | exact rfl | exact congrArg (fun e => some (AObj.mk _ _ _ e)) (by rw [List.map_set]; rfl) | fail | fail, trivial⟩ (by first | (and_intros <;> first | rfl | trivial) | fail) (by first | (and_intros <;> first | rfl | trivial) | fail) rfl rfl rfl (by (try dsimp only); first | (first | exact ⟨(hT.2.keep hx (by assumption)).arith, hT.2.keep hx (by assumption)⟩ | exact ⟨(hT.2.skip hx (by assumption)).arith, hT.2.skip hx (by assumption)⟩) | fail) (show _ < _ by (try dsimp only); omega)
 | refine Again_of (i, j + 1, es) ⟨by first | rfl | exact i64_next (by omega) | first | exact congrArg (AV.int .i64) (by omega) | exact congrArg (AV.int .i64) (by rw [i64w (by omega) (by omega)]; omega) | exact congrArg (AV.int .i64) (by rw [i64w (by omega) (by omega)]; omega) | fail, by first | rfl | exact i64_next (by omega) | first | exact congrArg (AV.int .i64) (by omega) | exact congrArg (AV.int .i64) (by rw [i64w (by omega) (by omega)]; omega) | exact congrArg (AV.int .i64) (by rw [i64w (by omega) (by omega)]; omega) | fail, trivial⟩ ⟨by first | rfl | exact rfl | exact congrArg (fun e => some (AObj.mk _ _ _ e)) (by rw [List.map_set]; rfl) | fail | fail, trivial⟩ (by first | (and_intros <;> first | rfl | trivial) | fail) (by first | (and_intros <;> first | rfl | trivial) | fail) rfl rfl rfl (by (try dsimp only); first | (first | exact ⟨(hT.2.keep hx (by assumption)).arith, hT.2.keep hx (by assumption)⟩ | exact ⟨(hT.2.skip hx (by assumption)).arith, hT.2.skip hx (by assumption)⟩) | fail) (show _ < _ by (try dsimp only); omega)
 | refine Call0 (hq x (List.mem_of_getElem? (hT.2.get hx))) (congrArg (List.cons _) (hcap.same _)) (hcap.known _) ?_
 | refine Call0 (c_IndexFunc_Write xs f caps q (by omega) hcap hq) (congrArg (fun l => [AV.sl _, AV.fn f l]) (hcap.same1 _)) ((Bool.and_true _).trans (hcap.known1 _)) ?_
 | (refine hook_sliceO rfl rfl rfl rfl rfl rfl (by first | (and_intros <;> first | omega | (simp only [lensB, lensC, splice_lenU, Int.toNat_natCast]; omega)) | fail) (fun cp hcp => ?_); try simp only [lensB, lensC, splice_lenU, Int.toNat_natCast] at hcp)
 | refine hook_clear rfl rfl rfl rfl rfl rfl rfl rfl (by first | (and_intros <;> first | omega | (simp only [lensB, lensC, splice_lenU, Int.toNat_natCast]; omega)) | fail) ?_
 | refine side_and (side_of (by first | (and_intros <;> first | exact Nat.le_of_ble_eq_true rfl | rfl | omega | (simp only [lensB, lensC]; omega) | exact bytes_ok (Nat.le_of_ble_eq_true rfl) (by omega) (by simp only [lensB, lensC]; omega) | exact bytes_okN (Nat.le_of_ble_eq_true rfl) (by simp only [lensB, lensC]; omega)) | fail)) ?_
 | refine LoadK_of rfl rfl ?_
 | fail
  all_goals
    conv => whnf
    first
    | exact OutA_ids rfl rfl rfl ⟨⟨_, _, _, rfl, congrArg (AObj.mk _ _ _) (congrArg (List.map WriteT.cells) (filter_none (by assumption)).symm)⟩, trivial⟩ rfl (.inr (flat_one (flat_map (fun _ => rfl) _)))
    | (refine OutA_cook 4 rfl rfl (by simp only [lensB, lensC, splice_lenU, Int.toNat_natCast]; omega) ?_; conv => whnf
       exact OutA_ids rfl rfl rfl ⟨⟨_, _, _, rfl, congrArg (AObj.mk _ _ _) (del_end hT.2 (by omega) (by simp) (by simp))⟩, trivial⟩ rfl (.inr (flat_one (flat_map (fun _ => rfl) _))))
theorem c_Clone_Write (xs : List WriteT) (hl : xs.length ≤ 1048576) : PC Tryz.prog false 56 [.sl (xs.map WriteT.cells)] (.own 0) [⟨false, 74, 3, xs.map WriteT.cells⟩] := by
  refine pc_at Tryz.func56 rfl (by kernel_rfl) 8 [.tmp 2] rfl rfl ?_
  repeat' (conv => whnf); first
 | refine splitB_true ?_
 | refine splitB_false ?_
 | refine side_and (side_of (by first | (and_intros <;> first | exact Nat.le_of_ble_eq_true rfl | rfl | omega | (simp only [lensB, lensC]; omega) | exact bytes_ok (Nat.le_of_ble_eq_true rfl) (by omega) (by simp only [lensB, lensC]; omega) | exact bytes_okN (Nat.le_of_ble_eq_true rfl) (by simp only [lensB, lensC]; omega)) | fail)) ?_
 | refine nilB_intro (fun h => ?_) ?_
 | refine side_and (side_of (map_len (fun _ => rfl))) ?_
 | refine side_and (side_of (map_one (fun _ => rfl) _)) ?_
 | fail
  all_goals
    conv => whnf
    first
    | exact OutA_ids rfl rfl rfl ⟨⟨_, _, _, rfl, rfl⟩, trivial⟩ rfl (.inr (flat_one (flat_map (fun _ => rfl) _)))
    | exact OutA_nil 2 1 74 3 rfl rfl (by decide) (OutA_ids rfl rfl rfl ⟨⟨_, _, _, rfl, congrArg (AObj.mk _ _ _) (map_nil_of (by assumption))⟩, trivial⟩ rfl (.inr (flat_one (flat_map (fun _ => rfl) _))))
theorem c_impl_putRows_1 (w : WriteT) : PC Tryz.prog false 86 [.agg w.cells] (.bool w.Gone) [] := by
  refine pc_at Tryz.func86 rfl (by kernel_rfl) 5 [.tmp 2] rfl rfl ?_
  repeat' (conv => whnf); first
 | (refine nameB_self (b := w.Gone) ?_)
 | refine side_and (side_of (by first | (and_intros <;> first | exact Nat.le_of_ble_eq_true rfl | rfl | omega | (simp only [lensB, lensC]; omega) | exact bytes_ok (Nat.le_of_ble_eq_true rfl) (by omega) (by simp only [lensB, lensC]; omega) | exact bytes_okN (Nat.le_of_ble_eq_true rfl) (by simp only [lensB, lensC]; omega)) | fail)) ?_
 | fail
  all_goals
    conv => whnf
    refine OutA_plain rfl rfl ?_
    first
    | rfl
    | (simp only [*, named, AV.sub, AV.sub.subL, Bool.and_true, Bool.and_false, Bool.true_and, Bool.false_and, Bool.or_true, Bool.or_false, Bool.true_or, Bool.false_or, Bool.not_true, Bool.not_false, if_true, if_false, decide_true, decide_false, Bool.false_eq_true, Bool.and_self]; done)
    | (simp_all [named, AV.sub, AV.sub.subL]; done)
    | (simp_all [named, AV.sub, AV.sub.subL] <;> (intros; omega))
    | (exfalso; omega)
def putR (rows ws : List WriteT) : List WriteT := (ws.foldl putW rows).filter fun w => !w.Gone
def putRS (rows ws : List WriteT) : List WriteT := (ws.foldl putWS rows).filter fun w => !w.Gone
def resW (b : Bool) (l : List WriteT) : List WriteT := match b with | true => l | false => []
theorem fold_next {g : List WriteT → WriteT → List WriteT} {xs acc : List WriteT} {j : Nat} {y : WriteT} (hy : xs[j]? = some y) : (xs.take (j + 1)).foldl g acc = g ((xs.take j).foldl g acc) y := by rw [take_get hy, List.foldl_append]; rfl
theorem foldI_len {ws rows : List WriteT} {j : Nat} (h1 : rows.length ≤ 1000) (h2 : ws.length ≤ 1000) : ((ws.take j).foldl putW rows).length ≤ 2000 := by
  have h := putW_fold_len (ws.take j) rows
  have := List.length_take_le j ws
  have : (ws.take j).length ≤ ws.length := by rw [List.length_take]; omega
  omega
theorem foldS_len {ws rows : List WriteT} {j : Nat} (h1 : rows.length ≤ 1000) (h2 : ws.length ≤ 1000) : ((ws.take j).foldl putWS rows).length ≤ 2000 := by
  have h := putWS_fold_len (ws.take j) rows
  have : (ws.take j).length ≤ ws.length := by rw [List.length_take]; omega
  omega
theorem c_impl_putRows (rows ws : List WriteT) (hr : rows.length ≤ 1000) (hw : ws.length ≤ 1000) : PC Tryz.prog false 57 [.sl (rows.map WriteT.cells), .sl (ws.map WriteT.cells)] (.tup [.own 0, .bool (decide ((putR rows ws).length ≤ 24))]) [⟨false, 74, 3, (resW (decide ((putR rows ws).length ≤ 24)) (putR rows ws)).map WriteT.cells⟩] := by
  have hfl := foldI_len (j := ws.length) hr hw
  rw [List.take_length] at hfl
  refine pc_at Tryz.func57 rfl (by kernel_rfl) 27 [.tmp 4, .tmp 5] rfl rfl ?_
  repeat' (conv => whnf); first
 | refine ix_as (f := WriteT.cells) (m := j) rfl (by omega) (fun y hy => ?_)
 | (refine nameB_dec (fun h => ?_) (fun h => ?_) <;> try simp only [lensB] at h)
 | refine splitB_true ?_
 | refine splitB_false ?_
 | ((refine Loop_at [11, 12] [] (Nat) (fun j => j ≤ ws.length) (fun j => [(13, .int .i64 (j : Nat)), (6, .own 4112)]) (fun j => [(4112, ⟨false, 74, 3, ((ws.take j).foldl putW rows).map WriteT.cells⟩)]) (fun j => ws.length - j) 0 ⟨by first | exact congrArg (AV.int .i64) (by rw [i64_wrap (by omega) (by omega)]; omega) | rfl | fail, by first | rfl | exact congrArg (AV.int .i64) (by rw [i64_wrap (by omega) (by omega)]; omega) | fail, trivial⟩ ⟨by first | rfl | first | rfl | exact congrArg (fun e : List WriteT => some (AObj.mk _ _ _ (e.map WriteT.cells))) (fold_next (g := putW) hy).symm | fail | fail, trivial⟩ (by (try dsimp only); first | (exact Nat.zero_le _) | fail) ?_; (conv => whnf); refine side_and (side_of (by first | exact fun j => rfl | exact fun j => by simp [headOk, closedE, closedO, closedL, AV.closed, hcap.closed, hasId, AObj.box, BK.ofB])) ?_; rintro j hJ; try dsimp only at hJ))
 | (refine Again_ren 20512 4112 (by decide) rfl ?_; (conv => whnf); refine Again_of (j + 1) ⟨by first | rfl | exact i64_next (by omega) | exact congrArg (AV.int .i64) (by rw [i64_wrap (by omega) (by omega)]; omega) | fail, by first | rfl | exact congrArg (AV.int .i64) (by rw [i64_wrap (by omega) (by omega)]; omega) | fail, trivial⟩ ⟨by first | rfl | first | rfl | exact congrArg (fun e : List WriteT => some (AObj.mk _ _ _ (e.map WriteT.cells))) (fold_next (g := putW) hy).symm | fail | fail, trivial⟩ (by first | (and_intros <;> first | rfl | trivial) | fail) (by first | (and_intros <;> first | rfl | trivial) | fail) rfl rfl rfl (by (try dsimp only); first | ((show j + 1 ≤ _; omega)) | fail) (show _ < _ by (try dsimp only); omega))
 | refine CallF (c_Clone_Write rows (by omega)) rfl rfl rfl (Nat.le_of_ble_eq_true rfl) ?_
 | refine CallX (c_impl_putWrite ((ws.take j).foldl putW rows) y (Nat.le_trans (foldI_len hr hw) (by decide))) [4112] rfl ⟨rfl, trivial⟩ rfl rfl rfl ?_
 | refine CallX (c_DeleteFunc_Write (ws.foldl putW rows) 86 [] WriteT.Gone (by omega) ⟨fun _ => rfl, fun _ => rfl, fun _ => rfl, fun _ => rfl, fun _ => rfl⟩ (fun y _ => c_impl_putRows_1 y)) [4112] rfl ⟨rfl, trivial⟩ rfl rfl rfl ?_
 | refine side_and (side_of (by first | (and_intros <;> first | exact Nat.le_of_ble_eq_true rfl | rfl | omega | (simp only [lensB, lensC]; omega) | exact bytes_ok (Nat.le_of_ble_eq_true rfl) (by omega) (by simp only [lensB, lensC]; omega) | exact bytes_okN (Nat.le_of_ble_eq_true rfl) (by simp only [lensB, lensC]; omega)) | fail)) ?_
 | (have hke : ws.take j = ws := List.take_of_length_le (by omega); rw [hke])
 | fail
  all_goals
    conv => whnf
    first
    | (rw [show decide ((putR rows ws).length ≤ 24) = true from decide_eq_true (by unfold putR; omega)]; exact OutA_ids rfl rfl rfl ⟨⟨_, _, _, rfl, rfl⟩, trivial⟩ rfl (.inr (flat_one (flat_map (fun _ => rfl) _))))
    | (rw [show decide ((putR rows ws).length ≤ 24) = false from decide_eq_false (by unfold putR; omega)]; exact OutA_nil 4 1 74 3 rfl rfl (by decide) (OutA_ids rfl rfl rfl ⟨⟨_, _, _, rfl, rfl⟩, trivial⟩ rfl (.inr (flat_one (flat_map (fun _ => rfl) _)))))
    | trace_state
theorem filP_yes {α : Type} {p : α → Bool} {C : α → List AV} {xs : List α} {k : Nat} {x : α} {L : List (List AV)} (hx : xs[k]? = some x) (hp : p x = true) (hL : L = [C x]) : ((xs.take k).filter p).map C ++ L = ((xs.take (k + 1)).filter p).map C := by
  rw [hL, take_get hx, List.filter_append, List.map_append]
  simp [hp]
theorem filP_no {α : Type} {p : α → Bool} {C : α → List AV} {xs : List α} {k : Nat} {x : α} (hx : xs[k]? = some x) (hp : p x = false) : ((xs.take k).filter p).map C = ((xs.take (k + 1)).filter p).map C := by
  rw [take_get hx, List.filter_append]
  simp [hp]
theorem c_spec_l5PutRows (rows ws : List WriteT) (hr : rows.length ≤ 1000) (hw : ws.length ≤ 1000) : PC Tryz.prog false 53 [.sl (rows.map WriteT.cells), .sl (ws.map WriteT.cells)] (.own 0) [⟨false, 74, 3, (putRS rows ws).map WriteT.cells⟩] := by
  have hfl := foldS_len (j := ws.length) hr hw
  rw [List.take_length] at hfl
  refine pc_at Tryz.func53 rfl (by kernel_rfl) 39 [.tmp 4] rfl rfl ?_
  repeat' (conv => whnf); first
 | refine ix_as (f := WriteT.cells) (m := j) rfl (by omega) (fun y hy => ?_)
 | refine side_and (side_of (by first | (and_intros <;> first | exact Nat.le_of_ble_eq_true rfl | rfl | (intro e; exact absurd (AV.own.inj e) (by decide)) | (intro e; exact AV.noConfusion e)) | fail)) ?_
 | (show ∃ e, _ ∧ Go.Ab.LoadK _ _ _ _; refine ix_ownX (f := WriteT.cells) (by (try simp only [Int.toNat_natCast]); omega) (fun z hz => ?_); try simp only [Int.toNat_natCast] at hz)
 | refine side_and (side_of (one_lenC rfl rfl)) ?_
 | refine side_and (side_of (app_boundC (L := (((ws.foldl putWS rows).take k).filter fun w => !w.Gone).map WriteT.cells) rfl (by (have hq := List.length_filter_le (fun w : WriteT => !w.Gone) ((ws.foldl putWS rows).take k); rw [List.length_take] at hq; simp only [List.length_map]; omega)) (Nat.le_of_ble_eq_true rfl))) ?_
 | refine nameB_true ?_
 | refine nameB_false ?_
 | (refine nameB_dec (fun h => ?_) (fun h => ?_) <;> try simp only [lensB] at h)
 | (refine nameB_cases (fun h => ?_) (fun h => ?_) <;> try simp only [nmL, lensB] at h)
 | refine splitB_true ?_
 | refine splitB_false ?_
 | (refine Loop_at [14, 15] [] (Nat) (fun j => j ≤ ws.length) (fun j => [(16, .int .i64 (j : Nat)), (5, .own 4128)]) (fun j => [(4128, ⟨false, 74, 3, ((ws.take j).foldl putWS rows).map WriteT.cells⟩)]) (fun j => ws.length - j) 0 ⟨by first | exact congrArg (AV.int .i64) (by rw [i64_wrap (by omega) (by omega)]; omega) | rfl | fail, by first | rfl | exact congrArg (AV.int .i64) (by rw [i64_wrap (by omega) (by omega)]; omega) | fail, trivial⟩ ⟨by first | rfl | first | rfl | exact congrArg (fun e : List WriteT => some (AObj.mk _ _ _ (e.map WriteT.cells))) (fold_next (g := putWS) hy).symm | fail | fail, trivial⟩ (by (try dsimp only); first | (exact Nat.zero_le _) | fail) ?_; (conv => whnf); refine side_and (side_of (by first | exact fun j => rfl | exact fun j => by simp [headOk, closedE, closedO, closedL, AV.closed, hcap.closed, hasId, AObj.box, BK.ofB])) ?_; rintro j hJ; try dsimp only at hJ)
 | (refine Loop_nil 8 4097 74 3 rfl rfl (by decide) ?_; refine Loop_at [24, 25] [] (Nat) (fun k => k ≤ (ws.foldl putWS rows).length) (fun k => [(26, .int .i64 (k : Nat)), (8, .own 4097)]) (fun k => [(4128, ⟨false, 74, 3, (ws.foldl putWS rows).map WriteT.cells⟩), (4097, ⟨false, 74, 3, (((ws.foldl putWS rows).take k).filter fun w => !w.Gone).map WriteT.cells⟩)]) (fun k => (ws.foldl putWS rows).length - k) 0 ⟨by first | exact congrArg (AV.int .i64) (by rw [i64_wrap (by omega) (by omega)]; omega) | rfl | fail, by first | rfl | exact congrArg (AV.int .i64) (by rw [i64_wrap (by omega) (by omega)]; omega) | fail, trivial⟩ ⟨by first | rfl | first | rfl | exact congrArg (fun e => some (AObj.mk _ _ _ e)) (filP_yes hz (by simp only [Bool.not_eq_true']; assumption) rfl) | exact congrArg (fun e => some (AObj.mk _ _ _ e)) (filP_no hz (by simp only [Bool.not_eq_false']; assumption)) | fail | fail, by first | rfl | first | rfl | exact congrArg (fun e => some (AObj.mk _ _ _ e)) (filP_yes hz (by simp only [Bool.not_eq_true']; assumption) rfl) | exact congrArg (fun e => some (AObj.mk _ _ _ e)) (filP_no hz (by simp only [Bool.not_eq_false']; assumption)) | fail | fail, trivial⟩ (by (try dsimp only); first | (exact Nat.zero_le _) | fail) ?_; (conv => whnf); refine side_and (side_of (by first | exact fun k => rfl | exact fun k => by simp [headOk, closedE, closedO, closedL, AV.closed, hcap.closed, hasId, AObj.box, BK.ofB])) ?_; rintro k hK; try dsimp only at hK)
 | refine Again_ren 20512 4128 (by decide) rfl ?_; (conv => whnf); refine Again_of (j + 1) ⟨by first | rfl | exact i64_next (by omega) | exact congrArg (AV.int .i64) (by rw [i64_wrap (by omega) (by omega)]; omega) | fail, by first | rfl | exact congrArg (AV.int .i64) (by rw [i64_wrap (by omega) (by omega)]; omega) | fail, trivial⟩ ⟨by first | rfl | first | rfl | exact congrArg (fun e : List WriteT => some (AObj.mk _ _ _ (e.map WriteT.cells))) (fold_next (g := putWS) hy).symm | fail | fail, trivial⟩ (by first | (and_intros <;> first | rfl | trivial) | fail) (by first | (and_intros <;> first | rfl | trivial) | fail) rfl rfl rfl (by (try dsimp only); first | ((show j + 1 ≤ _; omega)) | fail) (show _ < _ by (try dsimp only); omega)
 | refine Again_of (k + 1) ⟨by first | rfl | exact i64_next (by omega) | exact congrArg (AV.int .i64) (by rw [i64_wrap (by omega) (by omega)]; omega) | fail, by first | rfl | exact congrArg (AV.int .i64) (by rw [i64_wrap (by omega) (by omega)]; omega) | fail, trivial⟩ ⟨by first | rfl | first | rfl | exact congrArg (fun e => some (AObj.mk _ _ _ e)) (filP_yes hz (by simp only [Bool.not_eq_true']; assumption) rfl) | exact congrArg (fun e => some (AObj.mk _ _ _ e)) (filP_no hz (by simp only [Bool.not_eq_false']; assumption)) | fail | fail, by first | rfl | first | rfl | exact congrArg (fun e => some (AObj.mk _ _ _ e)) (filP_yes hz (by simp only [Bool.not_eq_true']; assumption) rfl) | exact congrArg (fun e => some (AObj.mk _ _ _ e)) (filP_no hz (by simp only [Bool.not_eq_false']; assumption)) | fail | fail, trivial⟩ (by first | (and_intros <;> first | rfl | trivial) | fail) (by first | (and_intros <;> first | rfl | trivial) | fail) rfl rfl rfl (by (try dsimp only); first | ((show k + 1 ≤ _; omega)) | fail) (show _ < _ by (try dsimp only); omega)
 | refine CallF (c_spec_l5PutWF ((ws.take j).foldl putWS rows) y (Nat.le_trans (foldS_len hr hw) (by decide))) rfl rfl rfl (Nat.le_of_ble_eq_true rfl) ?_
 | refine side_and (side_of (by first | (and_intros <;> first | exact Nat.le_of_ble_eq_true rfl | rfl | omega | (simp only [lensB, lensC]; omega) | exact bytes_ok (Nat.le_of_ble_eq_true rfl) (by omega) (by simp only [lensB, lensC]; omega) | exact bytes_okN (Nat.le_of_ble_eq_true rfl) (by simp only [lensB, lensC]; omega)) | fail)) ?_
 | refine side_and (side_of (map_len (fun _ => rfl))) ?_
 | refine side_and (side_of (map_one (fun _ => rfl) _)) ?_
 | refine LoadK_of rfl rfl ?_
 | (have hke : ws.take j = ws := List.take_of_length_le (by omega); rw [hke])
 | fail
  all_goals
    conv => whnf
    first
    | exact OutA_ids rfl rfl rfl ⟨⟨_, _, _, rfl, congrArg (AObj.mk _ _ _) (by rw [List.take_of_length_le (by omega)]; rfl)⟩, trivial⟩ rfl (.inr (flat_one (flat_map (fun _ => rfl) _)))
    | trace_state
end Go.Proofs.YthbheejeloomjaaGreatDoor
