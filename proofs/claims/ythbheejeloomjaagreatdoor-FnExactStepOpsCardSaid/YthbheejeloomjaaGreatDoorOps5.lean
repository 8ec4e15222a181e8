/-
  A program step by step: what the reference's function gives.
  No condition.
-/
import Derived.Test.YthbheejeloomjaaGreatDoorOps3
import Derived.Test.YthbheejeloomjaaGreatDoorPutS
namespace Go.Proofs.YthbheejeloomjaaGreatDoor
open Go.Ab
set_option linter.unusedSimpArgs false
set_option maxRecDepth 20000
set_option maxHeartbeats 4000000
set_option linter.unusedVariables false

theorem addN_no {o : OpT} {val : List UInt8} (hz : val = []) : IntKind.i64.wrap (0 + o.By) = addN o val := by subst hz; rfl
theorem OnWay.giveH {got : List GotT} {l : List OpT} {k : Nat} {ws : List WriteT} {x : OpT} (h : OnWay got l k ws) (hx : l[k]? = some x) (hs : (stands ws got x.Key).2.2 = true) (hh : holdsB x (stands ws got x.Key).1 (stands ws got x.Key).2.1 = false) : stepG got l [] = (2, [], []) :=
  h.give hx (fun q => by rw [holds_23 (.inl q)] at hh; cases hh) (fun q => by rw [holds_23 (.inr q)] at hh; cases hh) hs hh
theorem c_spec_l5Step (l : List OpT) (got : List GotT) (ho : okOps l = true) (hg : okGots got = true) (hgl : got.length ≤ 9223372036854775807) : PC Tryz.prog true 37 [.sl (l.map OpT.cells), .sl (got.map GotT.cells)] (.tup [.int .i64 (stepG got l []).1, .str (stepG got l []).2.1, .sl ((stepG got l []).2.2.map WriteT.cells)]) [] := by
  have hl := okOps_len ho
  refine pc_at Tryz.func37 rfl (by kernel_rfl) 87 [.tmp 4, .tmp 5, .tmp 6] rfl rfl ?_
  repeat' (conv => whnf); first
 | (refine ix_as (f := OpT.cells) (m := k) rfl (by omega) (fun x hx => ?_); have hso := stands_ok hT.ok.2 hg x.Key; have hvl := okVal_len hso.1; have hwl := hT.len; have hkl := hT.kl; have hox := okOps_at ho hx)
 | (refine nameB_self (b := (numS (stands ws got x.Key).1).2) ?_)
 | (refine nameB_cases (b := !holdsB x (stands ws got x.Key).1 (stands ws got x.Key).2.1) (fun h => ?_) (fun h => ?_) <;> simp only [Bool.not_eq_true', Bool.not_eq_false'] at h)
 | (refine nameB_cases (b := !(stands ws got x.Key).2.2) (fun h => ?_) (fun h => ?_) <;> simp only [Bool.not_eq_true', Bool.not_eq_false'] at h)
 | refine nameB_dyes (by assumption) ?_
 | refine nameB_dno (by assumption) ?_
 | (refine nameB_dec (fun h => ?_) (fun h => ?_) <;> try simp only [lensB] at h)
 | (refine nameB_cases (fun h => ?_) (fun h => ?_) <;> try simp only [nmL, lensB] at h)
 | refine splitB_true ?_
 | refine splitB_false ?_
 | refine draw_text (by kernel_rfl) (by kernel_rfl) (by kernel_rfl) ?_
 | ((refine Loop_nilS 7 rfl ?_; refine Loop_at [1, 15, 16] [] (Nat × List WriteT) (fun j => match j with | (k, ws) => OnWay got l k ws) (fun j => match j with | (k, ws) => [(17, .int .i64 (k : Nat)), (7, .sl (ws.map WriteT.cells))]) (fun j => match j with | (k, ws) => []) (fun j => match j with | (k, ws) => l.length - k) (0, []) ⟨by first | first | rfl | exact congrArg (AV.int .i64) (by have hkl := hT.kl; rw [i64_wrap (by omega) (by omega)]; omega) | rfl | fail, by first | rfl | first | rfl | exact congrArg (AV.int .i64) (by have hkl := hT.kl; rw [i64_wrap (by omega) (by omega)]; omega) | fail, trivial⟩ trivial (by (try dsimp only); first | (exact OnWay.start) | fail) ?_; (conv => whnf); refine side_and (side_of (by first | exact fun ⟨k, ws⟩ => rfl | exact fun ⟨k, ws⟩ => by simp [headOk, closedE, closedO, closedL, AV.closed, hcap.closed, hasId, AObj.box, BK.ofB])) ?_; rintro ⟨k, ws⟩ hT; try dsimp only at hT))
 | refine Again_of (k + 1, putWS ws ⟨x.Key, x.Val, false⟩) ⟨by first | rfl | exact i64_next (by omega) | first | rfl | exact congrArg (AV.int .i64) (by have hkl := hT.kl; rw [i64_wrap (by omega) (by omega)]; omega) | fail, by first | rfl | first | rfl | exact congrArg (AV.int .i64) (by have hkl := hT.kl; rw [i64_wrap (by omega) (by omega)]; omega) | fail, trivial⟩ trivial (by first | (and_intros <;> first | rfl | trivial) | fail) (by first | (and_intros <;> first | rfl | trivial) | fail) rfl rfl rfl (by (try dsimp only); first | (first | exact hT.put ho hx (by assumption) | exact hT.drop ho hx (by assumption) (by assumption) | exact hT.add ho hg hx (by assumption) (by assumption) (by assumption) | exact hT.on hx (by assumption) (by assumption) (by assumption) (by assumption) (by assumption)) | fail) (show _ < _ by (try dsimp only); omega)
 | refine Again_of (k + 1, putWS ws ⟨x.Key, [], true⟩) ⟨by first | rfl | exact i64_next (by omega) | first | rfl | exact congrArg (AV.int .i64) (by have hkl := hT.kl; rw [i64_wrap (by omega) (by omega)]; omega) | fail, by first | rfl | first | rfl | exact congrArg (AV.int .i64) (by have hkl := hT.kl; rw [i64_wrap (by omega) (by omega)]; omega) | fail, trivial⟩ trivial (by first | (and_intros <;> first | rfl | trivial) | fail) (by first | (and_intros <;> first | rfl | trivial) | fail) rfl rfl rfl (by (try dsimp only); first | (first | exact hT.put ho hx (by assumption) | exact hT.drop ho hx (by assumption) (by assumption) | exact hT.add ho hg hx (by assumption) (by assumption) (by assumption) | exact hT.on hx (by assumption) (by assumption) (by assumption) (by assumption) (by assumption)) | fail) (show _ < _ by (try dsimp only); omega)
 | refine Again_of (k + 1, putWS ws ⟨x.Key, Lib.itoa (addN x (stands ws got x.Key).1), false⟩) ⟨by first | rfl | exact i64_next (by omega) | first | rfl | exact congrArg (AV.int .i64) (by have hkl := hT.kl; rw [i64_wrap (by omega) (by omega)]; omega) | fail, by first | rfl | first | rfl | exact congrArg (AV.int .i64) (by have hkl := hT.kl; rw [i64_wrap (by omega) (by omega)]; omega) | fail, trivial⟩ trivial (by first | (and_intros <;> first | rfl | trivial) | fail) (by first | (and_intros <;> first | rfl | trivial) | fail) rfl rfl rfl (by (try dsimp only); first | (first | exact hT.put ho hx (by assumption) | exact hT.drop ho hx (by assumption) (by assumption) | exact hT.add ho hg hx (by assumption) (by assumption) (by assumption) | exact hT.on hx (by assumption) (by assumption) (by assumption) (by assumption) (by assumption)) | fail) (show _ < _ by (try dsimp only); omega)
 | refine Again_of (k + 1, ws) ⟨by first | rfl | exact i64_next (by omega) | first | rfl | exact congrArg (AV.int .i64) (by have hkl := hT.kl; rw [i64_wrap (by omega) (by omega)]; omega) | fail, by first | rfl | first | rfl | exact congrArg (AV.int .i64) (by have hkl := hT.kl; rw [i64_wrap (by omega) (by omega)]; omega) | fail, trivial⟩ trivial (by first | (and_intros <;> first | rfl | trivial) | fail) (by first | (and_intros <;> first | rfl | trivial) | fail) rfl rfl rfl (by (try dsimp only); first | (first | exact hT.put ho hx (by assumption) | exact hT.drop ho hx (by assumption) (by assumption) | exact hT.add ho hg hx (by assumption) (by assumption) (by assumption) | exact hT.on hx (by assumption) (by assumption) (by assumption) (by assumption) (by assumption)) | fail) (show _ < _ by (try dsimp only); omega)
 | refine Call0 (c_spec_l5Stands ws got x.Key (by omega) hgl) rfl rfl ?_
 | refine Call0 (c_spec_l5Gives x (stands ws got x.Key).1 (stands ws got x.Key).2.1 (by omega)) rfl rfl ?_
 | refine Call0 (c_spec_l5Num (stands ws got x.Key).1 (by omega)) rfl rfl ?_
 | refine CallT (c_spec_l5PutW ws ⟨x.Key, x.Val, false⟩ (by omega)) rfl rfl rfl rfl (Nat.le_of_ble_eq_true rfl) ?_
 | refine CallT (c_spec_l5PutW ws ⟨x.Key, [], true⟩ (by omega)) rfl rfl rfl rfl (Nat.le_of_ble_eq_true rfl) ?_
 | refine CallD0 (c_spec_l5Text (addN x (stands ws got x.Key).1) (by have hq := addN_in hox (by assumption) (by assumption) hso.2; omega) (by have hq := addN_in hox (by assumption) (by assumption) hso.2; omega)) (by first | rfl | exact congrArg (fun z => [AV.int .i64 z]) (addN_no (hso.2 (by assumption)))) rfl rfl ?_
 | refine CallDT (c_spec_l5PutW ws ⟨x.Key, Lib.itoa (addN x (stands ws got x.Key).1), false⟩ (by omega)) rfl rfl rfl ⟨rfl, rfl⟩ ?_
 | refine side_and (side_of (by first | (and_intros <;> first | exact Nat.le_of_ble_eq_true rfl | rfl | omega | (simp only [lensB, lensC]; omega) | exact bytes_ok (Nat.le_of_ble_eq_true rfl) (by omega) (by simp only [lensB, lensC]; omega) | exact bytes_okN (Nat.le_of_ble_eq_true rfl) (by simp only [lensB, lensC]; omega)) | fail)) ?_
 | fail
  all_goals
    conv => whnf
    first
    | (rw [hT.ask hx (by assumption) (by assumption) (by assumption)]; exact OutA_nilS 6 rfl (OutA_plain rfl rfl rfl))
    | (rw [hT.giveH hx (by assumption) (by assumption)]; exact OutA_nilS 6 rfl (OutA_plain rfl rfl rfl))
    | (exfalso; have hq := holds_23 (x := x) (by first | exact .inl (by assumption) | exact .inr (by assumption)) (stands ws got x.Key).1 (stands ws got x.Key).2.1; simp_all; done)
    | (rw [hT.done (by assumption)]; exact OutA_plain rfl rfl rfl)
    | trace_state
end Go.Proofs.YthbheejeloomjaaGreatDoor
