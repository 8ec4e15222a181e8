/-
  A program step by step: what the functions give.
  No condition.
-/
import Derived.Test.YthbheejeloomjaaGreatDoorOps3
namespace Go.Proofs.YthbheejeloomjaaGreatDoor
open Go.Ab
set_option linter.unusedSimpArgs false
set_option maxRecDepth 20000
set_option maxHeartbeats 4000000
set_option linter.unusedVariables false

theorem c_impl_stepOps (l : List OpT) (got : List GotT) (ho : okOps l = true) (hg : okGots got = true) (hgl : got.length ≤ 9223372036854775807) : PC Tryz.prog false 42 [.sl (l.map OpT.cells), .sl (got.map GotT.cells)] (.tup [.int .i64 (stepG got l []).1, .str (stepG got l []).2.1, .own 0]) [⟨false, 74, 3, (stepG got l []).2.2.map WriteT.cells⟩] := by
  have hl := okOps_len ho
  refine pc_at Tryz.func42 rfl (by kernel_rfl) 78 [.tmp 4, .tmp 5, .tmp 6] rfl rfl ?_
  repeat' (conv => whnf); first
 | (show Go.Ab.drawA _ (0 + 4096 * 17) _ _ _; refine draw_tail 9 (by kernel_rfl) (by kernel_rfl) (by kernel_rfl) ?_)
 | (refine ix_as (f := OpT.cells) (m := k) rfl (by omega) (fun x hx => ?_); have hso := stands_ok hT.ok.2 hg x.Key; have hvl := okVal_len hso.1; have hwl := hT.len; have hkl := hT.kl; have hwb := i64_in ((numS (stands ws got x.Key).1).1 + x.By); have hnu := c_impl_NumberIn (stands ws got x.Key).1 (by omega); rw [num_eq] at hnu)
 | (refine nameB_self (b := (numS (stands ws got x.Key).1).2) ?_)
 | (refine nameB_cases (b := holdsB x (stands ws got x.Key).1 (stands ws got x.Key).2.1) (fun h => ?_) (fun h => ?_))
 | (refine nameB_cases (b := !(stands ws got x.Key).2.2) (fun h => ?_) (fun h => ?_) <;> simp only [Bool.not_eq_true', Bool.not_eq_false'] at h)
 | refine nameB_true ?_
 | refine nameB_false ?_
 | (refine nameB_dec (fun h => ?_) (fun h => ?_) <;> try simp only [lensB] at h)
 | refine splitB_true ?_
 | refine splitB_false ?_
 | refine draw_text (by kernel_rfl) (by kernel_rfl) (by kernel_rfl) ?_
 | ((refine Loop_nil 7 4096 74 3 rfl rfl (by decide) ?_; refine Loop_at [1, 16, 17] [] (Nat × List WriteT) (fun j => match j with | (k, ws) => OnWay got l k ws) (fun j => match j with | (k, ws) => [(18, .int .i64 (k : Nat)), (7, .own 4096)]) (fun j => match j with | (k, ws) => [(4096, ⟨false, 74, 3, ws.map WriteT.cells⟩)]) (fun j => match j with | (k, ws) => l.length - k) (0, []) ⟨by first | first | rfl | exact congrArg (AV.int .i64) (by have hkl := hT.kl; rw [i64_wrap (by omega) (by omega)]; omega) | rfl | fail, by first | rfl | first | rfl | exact congrArg (AV.int .i64) (by have hkl := hT.kl; rw [i64_wrap (by omega) (by omega)]; omega) | fail, trivial⟩ ⟨by first | rfl | first | rfl | exact congrArg (fun e : List WriteT => some (AObj.mk _ _ _ (e.map WriteT.cells))) (putW_eq hT.ok.1 _) | fail | fail, trivial⟩ (by (try dsimp only); first | (exact OnWay.start) | fail) ?_; (conv => whnf); refine side_and (side_of (by first | exact fun ⟨k, ws⟩ => rfl | exact fun ⟨k, ws⟩ => by simp [headOk, closedE, closedO, closedL, AV.closed, hcap.closed, hasId, AObj.box, BK.ofB])) ?_; rintro ⟨k, ws⟩ hT; try dsimp only at hT))
 | refine Again_ren 28768 4096 (by decide) rfl ?_; (conv => whnf); refine Again_of (k + 1, putWS ws ⟨x.Key, x.Val, false⟩) ⟨by first | rfl | exact i64_next (by omega) | first | rfl | exact congrArg (AV.int .i64) (by have hkl := hT.kl; rw [i64_wrap (by omega) (by omega)]; omega) | fail, by first | rfl | first | rfl | exact congrArg (AV.int .i64) (by have hkl := hT.kl; rw [i64_wrap (by omega) (by omega)]; omega) | fail, trivial⟩ ⟨by first | rfl | first | rfl | exact congrArg (fun e : List WriteT => some (AObj.mk _ _ _ (e.map WriteT.cells))) (putW_eq hT.ok.1 _) | fail | fail, trivial⟩ (by first | (and_intros <;> first | rfl | trivial) | fail) (by first | (and_intros <;> first | rfl | trivial) | fail) rfl rfl rfl (by (try dsimp only); first | (first | exact hT.put ho hx (by assumption) | exact hT.drop ho hx (by assumption) (by assumption) | exact hT.add ho hg hx (by assumption) (by assumption) (by assumption) | exact hT.on hx (by assumption) (by assumption) (by assumption) (by assumption) (by assumption)) | fail) (show _ < _ by (try dsimp only); omega)
 | refine Again_ren 36928 4096 (by decide) rfl ?_; (conv => whnf); refine Again_of (k + 1, putWS ws ⟨x.Key, [], true⟩) ⟨by first | rfl | exact i64_next (by omega) | first | rfl | exact congrArg (AV.int .i64) (by have hkl := hT.kl; rw [i64_wrap (by omega) (by omega)]; omega) | fail, by first | rfl | first | rfl | exact congrArg (AV.int .i64) (by have hkl := hT.kl; rw [i64_wrap (by omega) (by omega)]; omega) | fail, trivial⟩ ⟨by first | rfl | first | rfl | exact congrArg (fun e : List WriteT => some (AObj.mk _ _ _ (e.map WriteT.cells))) (putW_eq hT.ok.1 _) | fail | fail, trivial⟩ (by first | (and_intros <;> first | rfl | trivial) | fail) (by first | (and_intros <;> first | rfl | trivial) | fail) rfl rfl rfl (by (try dsimp only); first | (first | exact hT.put ho hx (by assumption) | exact hT.drop ho hx (by assumption) (by assumption) | exact hT.add ho hg hx (by assumption) (by assumption) (by assumption) | exact hT.on hx (by assumption) (by assumption) (by assumption) (by assumption) (by assumption)) | fail) (show _ < _ by (try dsimp only); omega)
 | refine Again_ren 69776 4096 (by decide) rfl ?_; (conv => whnf); refine Again_of (k + 1, putWS ws ⟨x.Key, Lib.itoa (addN x (stands ws got x.Key).1), false⟩) ⟨by first | rfl | exact i64_next (by omega) | first | rfl | exact congrArg (AV.int .i64) (by have hkl := hT.kl; rw [i64_wrap (by omega) (by omega)]; omega) | fail, by first | rfl | first | rfl | exact congrArg (AV.int .i64) (by have hkl := hT.kl; rw [i64_wrap (by omega) (by omega)]; omega) | fail, trivial⟩ ⟨by first | rfl | first | rfl | exact congrArg (fun e : List WriteT => some (AObj.mk _ _ _ (e.map WriteT.cells))) (putW_eq hT.ok.1 _) | fail | fail, trivial⟩ (by first | (and_intros <;> first | rfl | trivial) | fail) (by first | (and_intros <;> first | rfl | trivial) | fail) rfl rfl rfl (by (try dsimp only); first | (first | exact hT.put ho hx (by assumption) | exact hT.drop ho hx (by assumption) (by assumption) | exact hT.add ho hg hx (by assumption) (by assumption) (by assumption) | exact hT.on hx (by assumption) (by assumption) (by assumption) (by assumption) (by assumption)) | fail) (show _ < _ by (try dsimp only); omega)
 | refine Again_of (k + 1, ws) ⟨by first | rfl | exact i64_next (by omega) | first | rfl | exact congrArg (AV.int .i64) (by have hkl := hT.kl; rw [i64_wrap (by omega) (by omega)]; omega) | fail, by first | rfl | first | rfl | exact congrArg (AV.int .i64) (by have hkl := hT.kl; rw [i64_wrap (by omega) (by omega)]; omega) | fail, trivial⟩ ⟨by first | rfl | first | rfl | exact congrArg (fun e : List WriteT => some (AObj.mk _ _ _ (e.map WriteT.cells))) (putW_eq hT.ok.1 _) | fail | fail, trivial⟩ (by first | (and_intros <;> first | rfl | trivial) | fail) (by first | (and_intros <;> first | rfl | trivial) | fail) rfl rfl rfl (by (try dsimp only); first | (first | exact hT.put ho hx (by assumption) | exact hT.drop ho hx (by assumption) (by assumption) | exact hT.add ho hg hx (by assumption) (by assumption) (by assumption) | exact hT.on hx (by assumption) (by assumption) (by assumption) (by assumption) (by assumption)) | fail) (show _ < _ by (try dsimp only); omega)
 | refine Call0 (c_impl_current x.Key ws got hT.ok.1 (by omega) hgl) rfl rfl ?_
 | refine Call0 (c_impl_Op_holds x (stands ws got x.Key).1 (stands ws got x.Key).2.1 (by omega)) rfl rfl ?_
 | refine Call0 (hnu) rfl rfl ?_
 | refine CallX (c_impl_putWrite ws ⟨x.Key, x.Val, false⟩ (by omega)) [4096] rfl ⟨rfl, trivial⟩ rfl rfl rfl ?_
 | refine CallX (c_impl_putWrite ws ⟨x.Key, [], true⟩ (by omega)) [4096] rfl ⟨rfl, trivial⟩ rfl rfl rfl ?_
 | refine CallX (c_impl_putWrite ws ⟨x.Key, Lib.itoa (addN x (stands ws got x.Key).1), false⟩ (by omega)) [4096] rfl ⟨rfl, trivial⟩ rfl rfl rfl ?_
 | refine CallD0 (c_Itoa (IntKind.i64.wrap ((numS (stands ws got x.Key).1).1 + x.By)) hwb.1 hwb.2) rfl rfl rfl ?_
 | refine side_and (side_of (by first | (and_intros <;> first | exact Nat.le_of_ble_eq_true rfl | rfl | omega | (simp only [lensB, lensC]; omega) | exact bytes_ok (Nat.le_of_ble_eq_true rfl) (by omega) (by simp only [lensB, lensC]; omega) | exact bytes_okN (Nat.le_of_ble_eq_true rfl) (by simp only [lensB, lensC]; omega)) | fail)) ?_
 | fail
  all_goals
    conv => whnf
    first
    | (rw [hT.ask hx (by assumption) (by assumption) (by assumption)]; exact OutA_nil 6 1 74 3 rfl rfl (by decide) (OutA_ids rfl rfl rfl ⟨⟨_, _, _, rfl, rfl⟩, trivial⟩ rfl (.inr (flat_one (flat_map (fun _ => rfl) _)))))
    | (rw [hT.give hx (by assumption) (by assumption) (by assumption) (by assumption)]; exact OutA_nil 6 1 74 3 rfl rfl (by decide) (OutA_ids rfl rfl rfl ⟨⟨_, _, _, rfl, rfl⟩, trivial⟩ rfl (.inr (flat_one (flat_map (fun _ => rfl) _)))))
    | (rw [hT.done (by assumption)]; exact OutA_ids rfl rfl rfl ⟨⟨_, _, _, rfl, rfl⟩, trivial⟩ rfl (.inr (flat_one (flat_map (fun _ => rfl) _))))
    | trace_state
end Go.Proofs.YthbheejeloomjaaGreatDoor
