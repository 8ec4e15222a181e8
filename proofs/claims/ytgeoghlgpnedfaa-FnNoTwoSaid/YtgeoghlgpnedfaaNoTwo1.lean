/-
  What doWatch and PlayWatch give.
  No condition.
-/
import Derived.Test.YtgeoghlgpnedfaaWatch5
import Derived.Test.YtgeoghlgpnedfaaWatch7
import Derived.Test.YtgeoghlgpnedfaaWatch8
namespace Go.Proofs.Ytgeoghlgpnedfaa
open Go.Ab
set_option linter.unusedSimpArgs false
set_option maxRecDepth 20000
set_option maxHeartbeats 4000000
set_option linter.unusedVariables false

structure ActT where
  Kind : Int
  Who : Int
  By : Int
deriving DecidableEq
def ActT.cells (x : ActT) : List AV := [.int .i64 x.Kind, .int .i64 x.Who, .int .i64 x.By]
def doB (w : WatchT) (a : ActT) : Bool :=
  if a.Kind = 1 then okAsk w a.Who a.By else if a.Kind = 2 then okPass w a.By else if a.Kind = 3 then okDrift w a.Who a.By else if a.Kind = 4 then okGive w a.Who else false
def doW (w : WatchT) (a : ActT) : WatchT :=
  if a.Kind = 1 then resW (okAsk w a.Who a.By) (askW w a.Who a.By) else if a.Kind = 2 then resW (okPass w a.By) (passW w a.By) else if a.Kind = 3 then resW (okDrift w a.Who a.By) (driftW w a.Who a.By) else if a.Kind = 4 then resW (okGive w a.Who) (giveW w a.Who) else ⟨0, [], []⟩
theorem do1 {w : WatchT} {a : ActT} (h : a.Kind = 1) : doB w a = okAsk w a.Who a.By ∧ doW w a = resW (okAsk w a.Who a.By) (askW w a.Who a.By) := by unfold doB doW; rw [if_pos h, if_pos h]; exact ⟨rfl, rfl⟩
theorem do2 {w : WatchT} {a : ActT} (h1 : ¬ a.Kind = 1) (h : a.Kind = 2) : doB w a = okPass w a.By ∧ doW w a = resW (okPass w a.By) (passW w a.By) := by unfold doB doW; rw [if_neg h1, if_neg h1, if_pos h, if_pos h]; exact ⟨rfl, rfl⟩
theorem do3 {w : WatchT} {a : ActT} (h1 : ¬ a.Kind = 1) (h2 : ¬ a.Kind = 2) (h : a.Kind = 3) : doB w a = okDrift w a.Who a.By ∧ doW w a = resW (okDrift w a.Who a.By) (driftW w a.Who a.By) := by unfold doB doW; rw [if_neg h1, if_neg h1, if_neg h2, if_neg h2, if_pos h, if_pos h]; exact ⟨rfl, rfl⟩
theorem do4 {w : WatchT} {a : ActT} (h1 : ¬ a.Kind = 1) (h2 : ¬ a.Kind = 2) (h3 : ¬ a.Kind = 3) (h : a.Kind = 4) : doB w a = okGive w a.Who ∧ doW w a = resW (okGive w a.Who) (giveW w a.Who) := by unfold doB doW; rw [if_neg h1, if_neg h1, if_neg h2, if_neg h2, if_neg h3, if_neg h3, if_pos h, if_pos h]; exact ⟨rfl, rfl⟩
theorem do5 {w : WatchT} {a : ActT} (h1 : ¬ a.Kind = 1) (h2 : ¬ a.Kind = 2) (h3 : ¬ a.Kind = 3) (h : ¬ a.Kind = 4) : doB w a = false ∧ doW w a = ⟨0, [], []⟩ := by unfold doB doW; rw [if_neg h1, if_neg h1, if_neg h2, if_neg h2, if_neg h3, if_neg h3, if_neg h, if_neg h]; exact ⟨rfl, rfl⟩
theorem c_impl_doWatch (w : WatchT) (a : ActT) (hok : w.ok) (hl : w.w ≤ 1048576) : PC Try.prog false 70 [.agg w.cells, .agg a.cells] (.tup [.agg [.int .i64 (doW w a).True, .own 0, .own 1], .bool (doB w a)]) (watchOs (doW w a).Clocks (doW w a).Given) := by
  refine pc_at Try.func70 rfl (by kernel_rfl) 45 [.cell 4 30, .tmp 5] rfl rfl ?_
  repeat' (conv => whnf); first
    | refine nameB_self (b := okAsk w a.Who a.By) ?_
    | refine nameB_self (b := okPass w a.By) ?_
    | refine nameB_self (b := okDrift w a.Who a.By) ?_
    | refine nameB_self (b := okGive w a.Who) ?_
    | refine nameB_true ?_
    | refine nameB_false ?_
    | refine nameB_yes (by assumption) ?_
    | refine nameB_no (by assumption) ?_
    | refine nameB_dyes (by assumption) ?_
    | refine nameB_dno (by assumption) ?_
    | (refine nameB_dec (fun h => ?_) (fun h => ?_) <;> try simp only [List.length_map, List.length_take, List.length_append, List.length_drop, List.length_set, markList_length, midL_len, mkL_length, Int.toNat_natCast, fact_byte] at h)
    | (refine nameB_cases (fun h => ?_) (fun h => ?_) <;> try simp only [bne_iff_ne, ne_eq, bne_eq_false_iff_eq, beq_iff_eq, beq_eq_false_iff_ne, Bool.not_eq_true', Bool.not_eq_false', Bool.or_eq_true, Bool.or_eq_false_iff, List.length_map, List.length_take, List.length_append, List.length_drop, List.length_set, markList_length, midL_len, mkL_length, Int.toNat_natCast, fact_byte] at h)
    | refine splitB_true ?_
    | refine splitB_false ?_
    | (refine splitB_intro (fun h => ?_) (fun h => ?_) <;> subst h)
    | refine ⟨⟨by kernel_rfl, by kernel_rfl, by kernel_rfl⟩, ?_⟩
    | (show Go.Ab.CallA _ _ _ _ _ _ _; first
        | refine CallF (c_impl_AskLease w a.Who a.By hok hl) rfl rfl rfl (Nat.le_of_ble_eq_true rfl) ?_
        | refine CallF (c_impl_PassTime w a.By hok hl) rfl rfl rfl (Nat.le_of_ble_eq_true rfl) ?_
        | refine CallF (c_impl_DriftTo w a.Who a.By hok hl) rfl rfl rfl (Nat.le_of_ble_eq_true rfl) ?_
        | refine CallF (c_impl_GiveBack w a.Who hok hl) rfl rfl rfl (Nat.le_of_ble_eq_true rfl) ?_)
    | refine ix_map_at hx ?_
    | refine ix_map_at hy ?_
    | refine sl_pre (by omega) (fun _ => rfl) ?_
    | refine sl_suf (by omega) (fun _ => rfl) ?_
    | (refine ix_map2 hx (by omega) (by (try simp only [List.length_take]); omega) (fun y hy => ?_); try simp only [Int.toNat_natCast] at hy)
    | (refine ix_map (by omega) (by (try simp only [List.length_take]); omega) (fun x hx => ?_); try simp only [Int.toNat_natCast] at hx)
    | refine side_and (side_of (by first | (and_intros <;> first | exact Nat.le_of_ble_eq_true rfl | rfl | omega | (simp only [List.length_map, List.length_append, List.length_replicate, List.length_take, List.length_cons, List.length_nil, List.length_drop, List.length_set, markList_length, midL_len, mkL_length]; omega) | exact bytes_ok (Nat.le_of_ble_eq_true rfl) (by omega) (by simp only [List.length_map, List.length_append, List.length_replicate, List.length_take, List.length_cons, List.length_nil, List.length_drop, List.length_set, markList_length, midL_len, mkL_length]; omega) | exact bytes_okN (Nat.le_of_ble_eq_true rfl) (by simp only [List.length_map, List.length_append, List.length_replicate, List.length_take, List.length_cons, List.length_nil, List.length_drop, List.length_set, markList_length, midL_len, mkL_length]; omega)) | fail)) ?_
    | refine nilB_intro (fun h => ?_) ?_
    | refine side_and (side_of (show Go.Ab.structOk _ _ = true by kernel_rfl)) ?_
    | refine side_and (side_of (map_len (fun _ => rfl))) ?_
    | refine side_and (side_of (map_one (fun _ => rfl) _)) ?_
    | refine side_and ?_ ?_
    | refine LoadK_of rfl rfl ?_
    | refine LoadD_cel rfl rfl rfl rfl ?_
    | refine LoadD_of rfl ?_
    | refine StoreD_of rfl rfl rfl ?_
    | refine AppD_of rfl (by and_intros <;> first | rfl | decide) (by simp only [List.length_map, List.length_append, List.length_take, List.length_cons, List.length_nil]; first | (refine ⟨by omega, ?_⟩; refine Nat.le_trans (Nat.mul_le_mul_left _ (show _ ≤ 512 by decide)) ?_; omega) | fail) ?_
    | refine AppN_of rfl rfl (by and_intros <;> rfl) (by simp only [List.length_map, List.length_append, List.length_take, List.length_cons, List.length_nil]; first | (refine ⟨by omega, ?_⟩; refine Nat.le_trans (Nat.mul_le_mul_left _ (show _ ≤ 512 by decide)) ?_; omega) | fail) ?_
    | (show False; omega)
  all_goals
    conv => whnf
    first
    | (obtain ⟨e1, e2⟩ := do1 (w := w) (a := a) (by assumption); rw [e1, e2]; exact OutA_ids rfl rfl rfl ⟨⟨_, _, _, rfl, rfl⟩, ⟨_, _, _, rfl, rfl⟩, trivial⟩ rfl (.inr watch_flat))
    | (obtain ⟨e1, e2⟩ := do2 (w := w) (a := a) (by assumption) (by assumption); rw [e1, e2]; exact OutA_ids rfl rfl rfl ⟨⟨_, _, _, rfl, rfl⟩, ⟨_, _, _, rfl, rfl⟩, trivial⟩ rfl (.inr watch_flat))
    | (obtain ⟨e1, e2⟩ := do3 (w := w) (a := a) (by assumption) (by assumption) (by assumption); rw [e1, e2]; exact OutA_ids rfl rfl rfl ⟨⟨_, _, _, rfl, rfl⟩, ⟨_, _, _, rfl, rfl⟩, trivial⟩ rfl (.inr watch_flat))
    | (obtain ⟨e1, e2⟩ := do4 (w := w) (a := a) (by assumption) (by assumption) (by assumption) (by assumption); rw [e1, e2]; exact OutA_ids rfl rfl rfl ⟨⟨_, _, _, rfl, rfl⟩, ⟨_, _, _, rfl, rfl⟩, trivial⟩ rfl (.inr watch_flat))
    | (obtain ⟨e1, e2⟩ := do5 (w := w) (a := a) (by assumption) (by assumption) (by assumption) (by assumption); rw [e1, e2]; exact OutA_nilB 32 1 27 1 1 rfl rfl rfl (by decide) (OutA_nilB 32 2 112 3 2 rfl rfl rfl (by decide) (OutA_ids rfl rfl rfl ⟨⟨_, _, _, rfl, rfl⟩, ⟨_, _, _, rfl, rfl⟩, trivial⟩ rfl (.inr watch_flat))))
end Go.Proofs.Ytgeoghlgpnedfaa
