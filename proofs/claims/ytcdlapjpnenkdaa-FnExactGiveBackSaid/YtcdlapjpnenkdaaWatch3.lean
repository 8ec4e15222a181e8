/-
  What the functions that give lease tables give.
  No condition.
-/
import Derived.Test.YtcdlapjpnenkdaaWatch2
namespace Go.Proofs.Ytcdlapjpnenkdaa
open Go.Ab
set_option linter.unusedSimpArgs false
set_option maxRecDepth 20000
set_option maxHeartbeats 2000000
set_option linter.unusedVariables false

theorem c_Clone_Clock (xs : List ClockT) (hl : xs.length ≤ 1048576) : PC Try.prog false 62 [.sl (xs.map ClockT.cells)] (.own 0) [⟨false, 49, 1, xs.map ClockT.cells⟩] := by
  refine pc_at Try.func62 rfl (by kernel_rfl) 8 [.tmp 2] rfl rfl ?_
  repeat' (conv => whnf); first
    | refine nameB_true ?_
    | refine nameB_false ?_
    | refine nameB_yes (by assumption) ?_
    | refine nameB_no (by assumption) ?_
    | refine nameB_dyes (by assumption) ?_
    | refine nameB_dno (by assumption) ?_
    | (refine nameB_dec (fun h => ?_) (fun h => ?_) <;> try simp only [List.length_map, List.length_take, List.length_append, List.length_drop, markList_length, Int.toNat_natCast, fact_byte] at h)
    | (refine nameB_cases (fun h => ?_) (fun h => ?_) <;> try simp only [bne_iff_ne, ne_eq, bne_eq_false_iff_eq, beq_iff_eq, beq_eq_false_iff_ne, Bool.not_eq_true', Bool.not_eq_false', Bool.or_eq_true, Bool.or_eq_false_iff, List.length_map, List.length_take, List.length_append, List.length_drop, markList_length, Int.toNat_natCast, fact_byte] at h)
    | refine splitB_true ?_
    | refine splitB_false ?_
    | (refine splitB_intro (fun h => ?_) (fun h => ?_) <;> subst h)
    | refine ⟨⟨by kernel_rfl, by kernel_rfl, by kernel_rfl⟩, ?_⟩
    | refine ix_map_at hx ?_
    | refine ix_map_at hy ?_
    | refine sl_pre (by omega) (fun _ => rfl) ?_
    | refine sl_suf (by omega) (fun _ => rfl) ?_
    | (refine ix_map2 hx (by omega) (by (try simp only [List.length_take]); omega) (fun y hy => ?_); try simp only [Int.toNat_natCast] at hy)
    | (refine ix_map (by omega) (by (try simp only [List.length_take]); omega) (fun x hx => ?_); try simp only [Int.toNat_natCast] at hx)
    | refine side_and (side_of (by first | (and_intros <;> first | exact Nat.le_of_ble_eq_true rfl | rfl | omega | (simp only [List.length_map, List.length_append, List.length_replicate, List.length_take, List.length_cons, List.length_nil, List.length_drop, List.length_set, markList_length]; omega) | exact bytes_ok (Nat.le_of_ble_eq_true rfl) (by omega) (by simp only [List.length_map, List.length_append, List.length_replicate, List.length_take, List.length_cons, List.length_nil, List.length_drop, List.length_set, markList_length]; omega) | exact bytes_okN (Nat.le_of_ble_eq_true rfl) (by simp only [List.length_map, List.length_append, List.length_replicate, List.length_take, List.length_cons, List.length_nil, List.length_drop, List.length_set, markList_length]; omega)) | fail)) ?_
    | refine nilB_intro (fun h => ?_) ?_
    | refine side_and (side_of (map_len (fun _ => rfl))) ?_
    | refine side_and (side_of (map_one (fun _ => rfl) _)) ?_
    | refine side_and ?_ ?_
    | refine LoadK_of rfl rfl ?_
    | (show False; omega)
  all_goals
    conv => whnf
    first
    | exact OutA_ids rfl rfl rfl ⟨⟨_, _, _, rfl, rfl⟩, trivial⟩ rfl (.inr (flat_one (flat_map (fun _ => rfl) _)))
    | exact OutA_nil 2 1 49 1 rfl rfl (by decide) (OutA_ids rfl rfl rfl ⟨⟨_, _, _, rfl, congrArg (AObj.mk false _ _) (map_nil_of (by assumption))⟩, trivial⟩ rfl (.inr (flat_one (flat_map (fun _ => rfl) _))))
theorem c_Clone_Lease (xs : List LeaseT) (hl : xs.length ≤ 1048576) : PC Try.prog false 96 [.sl (xs.map LeaseT.cells)] (.own 0) [⟨false, 85, 3, xs.map LeaseT.cells⟩] := by
  refine pc_at Try.func96 rfl (by kernel_rfl) 8 [.tmp 2] rfl rfl ?_
  repeat' (conv => whnf); first
    | refine nameB_true ?_
    | refine nameB_false ?_
    | refine nameB_yes (by assumption) ?_
    | refine nameB_no (by assumption) ?_
    | refine nameB_dyes (by assumption) ?_
    | refine nameB_dno (by assumption) ?_
    | (refine nameB_dec (fun h => ?_) (fun h => ?_) <;> try simp only [List.length_map, List.length_take, List.length_append, List.length_drop, markList_length, Int.toNat_natCast, fact_byte] at h)
    | (refine nameB_cases (fun h => ?_) (fun h => ?_) <;> try simp only [bne_iff_ne, ne_eq, bne_eq_false_iff_eq, beq_iff_eq, beq_eq_false_iff_ne, Bool.not_eq_true', Bool.not_eq_false', Bool.or_eq_true, Bool.or_eq_false_iff, List.length_map, List.length_take, List.length_append, List.length_drop, markList_length, Int.toNat_natCast, fact_byte] at h)
    | refine splitB_true ?_
    | refine splitB_false ?_
    | (refine splitB_intro (fun h => ?_) (fun h => ?_) <;> subst h)
    | refine ⟨⟨by kernel_rfl, by kernel_rfl, by kernel_rfl⟩, ?_⟩
    | refine ix_map_at hx ?_
    | refine ix_map_at hy ?_
    | refine sl_pre (by omega) (fun _ => rfl) ?_
    | refine sl_suf (by omega) (fun _ => rfl) ?_
    | (refine ix_map2 hx (by omega) (by (try simp only [List.length_take]); omega) (fun y hy => ?_); try simp only [Int.toNat_natCast] at hy)
    | (refine ix_map (by omega) (by (try simp only [List.length_take]); omega) (fun x hx => ?_); try simp only [Int.toNat_natCast] at hx)
    | refine side_and (side_of (by first | (and_intros <;> first | exact Nat.le_of_ble_eq_true rfl | rfl | omega | (simp only [List.length_map, List.length_append, List.length_replicate, List.length_take, List.length_cons, List.length_nil, List.length_drop, List.length_set, markList_length]; omega) | exact bytes_ok (Nat.le_of_ble_eq_true rfl) (by omega) (by simp only [List.length_map, List.length_append, List.length_replicate, List.length_take, List.length_cons, List.length_nil, List.length_drop, List.length_set, markList_length]; omega) | exact bytes_okN (Nat.le_of_ble_eq_true rfl) (by simp only [List.length_map, List.length_append, List.length_replicate, List.length_take, List.length_cons, List.length_nil, List.length_drop, List.length_set, markList_length]; omega)) | fail)) ?_
    | refine nilB_intro (fun h => ?_) ?_
    | refine side_and (side_of (map_len (fun _ => rfl))) ?_
    | refine side_and (side_of (map_one (fun _ => rfl) _)) ?_
    | refine side_and ?_ ?_
    | refine LoadK_of rfl rfl ?_
    | (show False; omega)
  all_goals
    conv => whnf
    first
    | exact OutA_ids rfl rfl rfl ⟨⟨_, _, _, rfl, rfl⟩, trivial⟩ rfl (.inr (flat_one (flat_map (fun _ => rfl) _)))
    | exact OutA_nil 2 1 85 3 rfl rfl (by decide) (OutA_ids rfl rfl rfl ⟨⟨_, _, _, rfl, congrArg (AObj.mk false _ _) (map_nil_of (by assumption))⟩, trivial⟩ rfl (.inr (flat_one (flat_map (fun _ => rfl) _))))
def watchOs (cs : List ClockT) (ls : List LeaseT) : List AObj := [⟨false, 49, 1, cs.map ClockT.cells⟩, ⟨false, 85, 3, ls.map LeaseT.cells⟩]
theorem watch_flat {cs : List ClockT} {ls : List LeaseT} : ∀ o ∈ watchOs cs ls, o.elems.flatten.all AV.flat = true := by
  intro o ho
  simp only [watchOs, List.mem_cons, List.not_mem_nil, or_false] at ho
  rcases ho with rfl | rfl <;> exact flat_map (fun _ => rfl) _
theorem c_impl_copyWatch (w : WatchT) (hl : w.w ≤ 1048576) : PC Try.prog false 56 [.agg w.cells] (.agg [.int .i64 w.True, .own 0, .own 1]) (watchOs w.Clocks w.Given) := by
  have hw2 : w.w = w.Clocks.length + w.Given.length := rfl
  refine pc_at Try.func56 rfl (by kernel_rfl) 12 [.cell 2 33] rfl rfl ?_
  repeat' (conv => whnf); first
    | refine nameB_true ?_
    | refine nameB_false ?_
    | refine nameB_yes (by assumption) ?_
    | refine nameB_no (by assumption) ?_
    | refine nameB_dyes (by assumption) ?_
    | refine nameB_dno (by assumption) ?_
    | (refine nameB_dec (fun h => ?_) (fun h => ?_) <;> try simp only [List.length_map, List.length_take, List.length_append, List.length_drop, markList_length, Int.toNat_natCast, fact_byte] at h)
    | (refine nameB_cases (fun h => ?_) (fun h => ?_) <;> try simp only [bne_iff_ne, ne_eq, bne_eq_false_iff_eq, beq_iff_eq, beq_eq_false_iff_ne, Bool.not_eq_true', Bool.not_eq_false', Bool.or_eq_true, Bool.or_eq_false_iff, List.length_map, List.length_take, List.length_append, List.length_drop, markList_length, Int.toNat_natCast, fact_byte] at h)
    | refine splitB_true ?_
    | refine splitB_false ?_
    | (refine splitB_intro (fun h => ?_) (fun h => ?_) <;> subst h)
    | refine ⟨⟨by kernel_rfl, by kernel_rfl, by kernel_rfl⟩, ?_⟩
    | (show Go.Ab.CallA _ _ _ _ _ _ _; first
        | refine CallF (c_Clone_Clock w.Clocks (by omega)) rfl rfl rfl (Nat.le_of_ble_eq_true rfl) ?_
        | refine CallF (c_Clone_Lease w.Given (by omega)) rfl rfl rfl (Nat.le_of_ble_eq_true rfl) ?_)
    | (show Go.Ab.CallD _ _ _ _ _ _ _; first
        | refine CallDF (c_Clone_Clock w.Clocks (by omega)) rfl rfl ⟨rfl, rfl⟩ ?_
        | refine CallDF (c_Clone_Lease w.Given (by omega)) rfl rfl ⟨rfl, rfl⟩ ?_)
    | refine ix_map_at hx ?_
    | refine ix_map_at hy ?_
    | refine sl_pre (by omega) (fun _ => rfl) ?_
    | refine sl_suf (by omega) (fun _ => rfl) ?_
    | (refine ix_map2 hx (by omega) (by (try simp only [List.length_take]); omega) (fun y hy => ?_); try simp only [Int.toNat_natCast] at hy)
    | (refine ix_map (by omega) (by (try simp only [List.length_take]); omega) (fun x hx => ?_); try simp only [Int.toNat_natCast] at hx)
    | refine side_and (side_of (by first | (and_intros <;> first | exact Nat.le_of_ble_eq_true rfl | rfl | omega | (simp only [List.length_map, List.length_append, List.length_replicate, List.length_take, List.length_cons, List.length_nil, List.length_drop, List.length_set, markList_length]; omega) | exact bytes_ok (Nat.le_of_ble_eq_true rfl) (by omega) (by simp only [List.length_map, List.length_append, List.length_replicate, List.length_take, List.length_cons, List.length_nil, List.length_drop, List.length_set, markList_length]; omega) | exact bytes_okN (Nat.le_of_ble_eq_true rfl) (by simp only [List.length_map, List.length_append, List.length_replicate, List.length_take, List.length_cons, List.length_nil, List.length_drop, List.length_set, markList_length]; omega)) | fail)) ?_
    | refine nilB_intro (fun h => ?_) ?_
    | refine side_and (side_of (map_len (fun _ => rfl))) ?_
    | refine side_and (side_of (map_one (fun _ => rfl) _)) ?_
    | refine side_and ?_ ?_
    | refine LoadK_of rfl rfl ?_
    | (show False; omega)
  all_goals
    conv => whnf
    exact OutA_ids rfl rfl rfl ⟨⟨_, _, _, rfl, rfl⟩, ⟨_, _, _, rfl, rfl⟩, trivial⟩ rfl (.inr watch_flat)
theorem c_spec_l10Own (w : WatchT) (hl : w.w ≤ 1048576) : PC Try.prog false 54 [.agg w.cells] (.agg [.int .i64 w.True, .own 0, .own 1]) (watchOs w.Clocks w.Given) := by
  have hw2 : w.w = w.Clocks.length + w.Given.length := rfl
  refine pc_at Try.func54 rfl (by kernel_rfl) 14 [.cell 2 33] rfl rfl ?_
  repeat' (conv => whnf); first
    | refine nameB_true ?_
    | refine nameB_false ?_
    | refine nameB_yes (by assumption) ?_
    | refine nameB_no (by assumption) ?_
    | refine nameB_dyes (by assumption) ?_
    | refine nameB_dno (by assumption) ?_
    | (refine nameB_dec (fun h => ?_) (fun h => ?_) <;> try simp only [List.length_map, List.length_take, List.length_append, List.length_drop, markList_length, Int.toNat_natCast, fact_byte] at h)
    | (refine nameB_cases (fun h => ?_) (fun h => ?_) <;> try simp only [bne_iff_ne, ne_eq, bne_eq_false_iff_eq, beq_iff_eq, beq_eq_false_iff_ne, Bool.not_eq_true', Bool.not_eq_false', Bool.or_eq_true, Bool.or_eq_false_iff, List.length_map, List.length_take, List.length_append, List.length_drop, markList_length, Int.toNat_natCast, fact_byte] at h)
    | refine splitB_true ?_
    | refine splitB_false ?_
    | (refine splitB_intro (fun h => ?_) (fun h => ?_) <;> subst h)
    | refine ⟨⟨by kernel_rfl, by kernel_rfl, by kernel_rfl⟩, ?_⟩
    | refine ix_map_at hx ?_
    | refine ix_map_at hy ?_
    | refine sl_pre (by omega) (fun _ => rfl) ?_
    | refine sl_suf (by omega) (fun _ => rfl) ?_
    | (refine ix_map2 hx (by omega) (by (try simp only [List.length_take]); omega) (fun y hy => ?_); try simp only [Int.toNat_natCast] at hy)
    | (refine ix_map (by omega) (by (try simp only [List.length_take]); omega) (fun x hx => ?_); try simp only [Int.toNat_natCast] at hx)
    | refine side_and (side_of (by first | (and_intros <;> first | exact Nat.le_of_ble_eq_true rfl | rfl | omega | (simp only [List.length_map, List.length_append, List.length_replicate, List.length_take, List.length_cons, List.length_nil, List.length_drop, List.length_set, markList_length]; omega) | exact bytes_ok (Nat.le_of_ble_eq_true rfl) (by omega) (by simp only [List.length_map, List.length_append, List.length_replicate, List.length_take, List.length_cons, List.length_nil, List.length_drop, List.length_set, markList_length]; omega) | exact bytes_okN (Nat.le_of_ble_eq_true rfl) (by simp only [List.length_map, List.length_append, List.length_replicate, List.length_take, List.length_cons, List.length_nil, List.length_drop, List.length_set, markList_length]; omega)) | fail)) ?_
    | refine nilB_intro (fun h => ?_) ?_
    | refine side_and (side_of (map_len (fun _ => rfl))) ?_
    | refine side_and (side_of (map_one (fun _ => rfl) _)) ?_
    | refine side_and ?_ ?_
    | refine LoadK_of rfl rfl ?_
    | (show False; omega)
  all_goals
    conv => whnf
    exact OutA_ids rfl rfl rfl ⟨⟨_, _, _, rfl, rfl⟩, ⟨_, _, _, rfl, rfl⟩, trivial⟩ rfl (.inr watch_flat)
def resW (b : Bool) (w : WatchT) : WatchT := match b with | true => w | false => ⟨0, [], []⟩
def passW (w : WatchT) (by' : Int) : WatchT := { w with True := IntKind.i64.wrap (w.True + by') }
def okPass (w : WatchT) (by' : Int) : Bool := okWatch w && inB 0 by' 100000 && okWatch (passW w by')
theorem c_impl_PassTime (w : WatchT) (by' : Int) (hok : w.ok) (hl : w.w ≤ 1048576) : PC Try.prog false 23 [.agg w.cells, .int .i64 by'] (.tup [.agg [.int .i64 (resW (okPass w by') (passW w by')).True, .own 0, .own 1], .bool (okPass w by')]) (watchOs (resW (okPass w by') (passW w by')).Clocks (resW (okPass w by') (passW w by')).Given) := by
  refine pc_at Try.func23 rfl (by kernel_rfl) 27 [.cell 4 33, .tmp 5] rfl rfl ?_
  repeat' (conv => whnf); first
    | refine nameB_true ?_
    | refine nameB_false ?_
    | refine nameB_yes (by assumption) ?_
    | refine nameB_no (by assumption) ?_
    | refine nameB_dyes (by assumption) ?_
    | refine nameB_dno (by assumption) ?_
    | (refine nameB_dec (fun h => ?_) (fun h => ?_) <;> try simp only [List.length_map, List.length_take, List.length_append, List.length_drop, markList_length, Int.toNat_natCast, fact_byte] at h)
    | (refine nameB_cases (fun h => ?_) (fun h => ?_) <;> try simp only [bne_iff_ne, ne_eq, bne_eq_false_iff_eq, beq_iff_eq, beq_eq_false_iff_ne, Bool.not_eq_true', Bool.not_eq_false', Bool.or_eq_true, Bool.or_eq_false_iff, List.length_map, List.length_take, List.length_append, List.length_drop, markList_length, Int.toNat_natCast, fact_byte] at h)
    | refine splitB_true ?_
    | refine splitB_false ?_
    | (refine splitB_intro (fun h => ?_) (fun h => ?_) <;> subst h)
    | refine ⟨⟨by kernel_rfl, by kernel_rfl, by kernel_rfl⟩, ?_⟩
    | (show Go.Ab.CallA _ _ _ _ _ _ _; first
        | refine Call0 (c_impl_GoodWatch w hok) rfl rfl ?_
        | refine Call0 (c_impl_isTrue ..) rfl rfl ?_
        | refine CallF (c_impl_copyWatch w hl) rfl rfl rfl (Nat.le_of_ble_eq_true rfl) ?_
        | refine CallI (nid := 4096 * 5 + 16 * 1) (f := 57) Try.func57 rfl (by kernel_rfl) 1000000 [4] 9 [.cell 2 33, .tmp 3] rfl rfl ?_
        | refine Call0 (c_impl_GoodWatch (passW w by') hok) rfl rfl ?_)
    | (show Go.Ab.RetI _ _ _ _ _ _ _ _; refine RetI_of rfl ?_)
    | refine ix_map_at hx ?_
    | refine ix_map_at hy ?_
    | refine sl_pre (by omega) (fun _ => rfl) ?_
    | refine sl_suf (by omega) (fun _ => rfl) ?_
    | (refine ix_map2 hx (by omega) (by (try simp only [List.length_take]); omega) (fun y hy => ?_); try simp only [Int.toNat_natCast] at hy)
    | (refine ix_map (by omega) (by (try simp only [List.length_take]); omega) (fun x hx => ?_); try simp only [Int.toNat_natCast] at hx)
    | refine side_and (side_of (by first | (and_intros <;> first | exact Nat.le_of_ble_eq_true rfl | rfl | omega | (simp only [List.length_map, List.length_append, List.length_replicate, List.length_take, List.length_cons, List.length_nil, List.length_drop, List.length_set, markList_length]; omega) | exact bytes_ok (Nat.le_of_ble_eq_true rfl) (by omega) (by simp only [List.length_map, List.length_append, List.length_replicate, List.length_take, List.length_cons, List.length_nil, List.length_drop, List.length_set, markList_length]; omega) | exact bytes_okN (Nat.le_of_ble_eq_true rfl) (by simp only [List.length_map, List.length_append, List.length_replicate, List.length_take, List.length_cons, List.length_nil, List.length_drop, List.length_set, markList_length]; omega)) | fail)) ?_
    | refine nilB_intro (fun h => ?_) ?_
    | refine side_and (side_of (map_len (fun _ => rfl))) ?_
    | refine side_and (side_of (map_one (fun _ => rfl) _)) ?_
    | refine side_and ?_ ?_
    | refine LoadK_of rfl rfl ?_
    | (show False; omega)
  all_goals
    conv => whnf
    first
    | (rw [show (okPass w by') = true from (by first | (simp only [okPass, *, Bool.and_true, Bool.and_false, Bool.true_and, Bool.false_and, Bool.not_true, Bool.not_false] <;> fail) | fail)]; exact OutA_ids rfl rfl rfl ⟨⟨_, _, _, rfl, rfl⟩, ⟨_, _, _, rfl, rfl⟩, trivial⟩ rfl (.inr watch_flat))
    | (rw [show (okPass w by') = false from (by first | (simp only [okPass, *, Bool.and_true, Bool.and_false, Bool.true_and, Bool.false_and, Bool.not_true, Bool.not_false] <;> fail) | fail)]; exact OutA_nilB 16 1 49 1 1 rfl rfl rfl (by decide) (OutA_nilB 16 2 85 3 2 rfl rfl rfl (by decide) (OutA_ids rfl rfl rfl ⟨⟨_, _, _, rfl, rfl⟩, ⟨_, _, _, rfl, rfl⟩, trivial⟩ rfl (.inr watch_flat))))
theorem c_spec_PassTime (w : WatchT) (by' : Int) (hok : w.ok) (hl : w.w ≤ 1048576) : PC Try.prog false 22 [.agg w.cells, .int .i64 by'] (.tup [.agg [.int .i64 (resW (okPass w by') (passW w by')).True, .own 0, .own 1], .bool (okPass w by')]) (watchOs (resW (okPass w by') (passW w by')).Clocks (resW (okPass w by') (passW w by')).Given) := by
  refine pc_at Try.func22 rfl (by kernel_rfl) 27 [.cell 4 33, .tmp 5] rfl rfl ?_
  repeat' (conv => whnf); first
    | refine nameB_true ?_
    | refine nameB_false ?_
    | refine nameB_yes (by assumption) ?_
    | refine nameB_no (by assumption) ?_
    | refine nameB_dyes (by assumption) ?_
    | refine nameB_dno (by assumption) ?_
    | (refine nameB_dec (fun h => ?_) (fun h => ?_) <;> try simp only [List.length_map, List.length_take, List.length_append, List.length_drop, markList_length, Int.toNat_natCast, fact_byte] at h)
    | (refine nameB_cases (fun h => ?_) (fun h => ?_) <;> try simp only [bne_iff_ne, ne_eq, bne_eq_false_iff_eq, beq_iff_eq, beq_eq_false_iff_ne, Bool.not_eq_true', Bool.not_eq_false', Bool.or_eq_true, Bool.or_eq_false_iff, List.length_map, List.length_take, List.length_append, List.length_drop, markList_length, Int.toNat_natCast, fact_byte] at h)
    | refine splitB_true ?_
    | refine splitB_false ?_
    | (refine splitB_intro (fun h => ?_) (fun h => ?_) <;> subst h)
    | refine ⟨⟨by kernel_rfl, by kernel_rfl, by kernel_rfl⟩, ?_⟩
    | (show Go.Ab.CallA _ _ _ _ _ _ _; first
        | refine Call0 (c_spec_l10Good w hok) rfl rfl ?_
        | refine Call0 (c_spec_l1In ..) rfl rfl ?_
        | refine CallF (c_spec_l10Own w hl) rfl rfl rfl (Nat.le_of_ble_eq_true rfl) ?_
        | refine CallI (nid := 4096 * 5 + 16 * 1) (f := 60) Try.func60 rfl (by kernel_rfl) 1000000 [4] 9 [.cell 2 33, .tmp 3] rfl rfl ?_
        | refine Call0 (c_spec_l10Good (passW w by') hok) rfl rfl ?_)
    | (show Go.Ab.RetI _ _ _ _ _ _ _ _; refine RetI_of rfl ?_)
    | refine ix_map_at hx ?_
    | refine ix_map_at hy ?_
    | refine sl_pre (by omega) (fun _ => rfl) ?_
    | refine sl_suf (by omega) (fun _ => rfl) ?_
    | (refine ix_map2 hx (by omega) (by (try simp only [List.length_take]); omega) (fun y hy => ?_); try simp only [Int.toNat_natCast] at hy)
    | (refine ix_map (by omega) (by (try simp only [List.length_take]); omega) (fun x hx => ?_); try simp only [Int.toNat_natCast] at hx)
    | refine side_and (side_of (by first | (and_intros <;> first | exact Nat.le_of_ble_eq_true rfl | rfl | omega | (simp only [List.length_map, List.length_append, List.length_replicate, List.length_take, List.length_cons, List.length_nil, List.length_drop, List.length_set, markList_length]; omega) | exact bytes_ok (Nat.le_of_ble_eq_true rfl) (by omega) (by simp only [List.length_map, List.length_append, List.length_replicate, List.length_take, List.length_cons, List.length_nil, List.length_drop, List.length_set, markList_length]; omega) | exact bytes_okN (Nat.le_of_ble_eq_true rfl) (by simp only [List.length_map, List.length_append, List.length_replicate, List.length_take, List.length_cons, List.length_nil, List.length_drop, List.length_set, markList_length]; omega)) | fail)) ?_
    | refine nilB_intro (fun h => ?_) ?_
    | refine side_and (side_of (map_len (fun _ => rfl))) ?_
    | refine side_and (side_of (map_one (fun _ => rfl) _)) ?_
    | refine side_and ?_ ?_
    | refine LoadK_of rfl rfl ?_
    | (show False; omega)
  all_goals
    conv => whnf
    first
    | (rw [show (okPass w by') = true from (by first | (simp only [okPass, *, Bool.and_true, Bool.and_false, Bool.true_and, Bool.false_and, Bool.not_true, Bool.not_false] <;> fail) | fail)]; exact OutA_ids rfl rfl rfl ⟨⟨_, _, _, rfl, rfl⟩, ⟨_, _, _, rfl, rfl⟩, trivial⟩ rfl (.inr watch_flat))
    | (rw [show (okPass w by') = false from (by first | (simp only [okPass, *, Bool.and_true, Bool.and_false, Bool.true_and, Bool.false_and, Bool.not_true, Bool.not_false] <;> fail) | fail)]; exact OutA_nilB 16 1 49 1 1 rfl rfl rfl (by decide) (OutA_nilB 16 2 85 3 2 rfl rfl rfl (by decide) (OutA_ids rfl rfl rfl ⟨⟨_, _, _, rfl, rfl⟩, ⟨_, _, _, rfl, rfl⟩, trivial⟩ rfl (.inr watch_flat))))
theorem held_watch {t : Int} {cs cs' : List (List AV)} {ls ls' : List (List AV)} {k : AV} (h1 : cs = cs') (h2 : ls = ls') : [AV.agg [.int .i64 t, .sl cs, .sl ls], k] = [AV.agg [.int .i64 t, .sl cs', .sl ls'], k] := by rw [h1, h2]
theorem c_laws_heldWatch (t : Int) (n m : Nat) (hn : n ≤ 1048576) (hm : m ≤ 1048576) : PC Try.prog false 21 [.agg [.int .i64 t, .sl ((markList 1 ClockT.mark 1 n).map ClockT.cells), .sl ((markList 3 LeaseT.mark (1 + 1 * (n : Int)) m).map LeaseT.cells)], .int .i64 1] (.int .i64 (1 + 1 * (n : Int) + 3 * (m : Int))) [] := by
  refine pc_at Try.func21 rfl (by kernel_rfl) 18 [.tmp 4] rfl rfl ?_
  repeat' (conv => whnf); first
    | refine nameB_true ?_
    | refine nameB_false ?_
    | refine nameB_yes (by assumption) ?_
    | refine nameB_no (by assumption) ?_
    | refine nameB_dyes (by assumption) ?_
    | refine nameB_dno (by assumption) ?_
    | (refine nameB_dec (fun h => ?_) (fun h => ?_) <;> try simp only [List.length_map, List.length_take, List.length_append, List.length_drop, markList_length, Int.toNat_natCast, fact_byte] at h)
    | (refine nameB_cases (fun h => ?_) (fun h => ?_) <;> try simp only [bne_iff_ne, ne_eq, bne_eq_false_iff_eq, beq_iff_eq, beq_eq_false_iff_ne, Bool.not_eq_true', Bool.not_eq_false', Bool.or_eq_true, Bool.or_eq_false_iff, List.length_map, List.length_take, List.length_append, List.length_drop, markList_length, Int.toNat_natCast, fact_byte] at h)
    | refine splitB_true ?_
    | refine splitB_false ?_
    | (refine splitB_intro (fun h => ?_) (fun h => ?_) <;> subst h)
    | refine ⟨⟨by kernel_rfl, by kernel_rfl, by kernel_rfl⟩, ?_⟩
    | (show Go.Ab.CallA _ _ _ _ _ _ _; first
        | refine Call0 (c_laws_heldClockS 1 n (by omega) (by omega)) rfl rfl ?_
        | refine Call0 (c_laws_heldLeaseS (1 + 1 * (n : Int)) m (by omega) (by omega)) rfl rfl ?_)
    | refine ix_map_at hx ?_
    | refine ix_map_at hy ?_
    | refine sl_pre (by omega) (fun _ => rfl) ?_
    | refine sl_suf (by omega) (fun _ => rfl) ?_
    | (refine ix_map2 hx (by omega) (by (try simp only [List.length_take]); omega) (fun y hy => ?_); try simp only [Int.toNat_natCast] at hy)
    | (refine ix_map (by omega) (by (try simp only [List.length_take]); omega) (fun x hx => ?_); try simp only [Int.toNat_natCast] at hx)
    | refine side_and (side_of (by first | (and_intros <;> first | exact Nat.le_of_ble_eq_true rfl | rfl | omega | (simp only [List.length_map, List.length_append, List.length_replicate, List.length_take, List.length_cons, List.length_nil, List.length_drop, List.length_set, markList_length]; omega) | exact bytes_ok (Nat.le_of_ble_eq_true rfl) (by omega) (by simp only [List.length_map, List.length_append, List.length_replicate, List.length_take, List.length_cons, List.length_nil, List.length_drop, List.length_set, markList_length]; omega) | exact bytes_okN (Nat.le_of_ble_eq_true rfl) (by simp only [List.length_map, List.length_append, List.length_replicate, List.length_take, List.length_cons, List.length_nil, List.length_drop, List.length_set, markList_length]; omega)) | fail)) ?_
    | refine nilB_intro (fun h => ?_) ?_
    | refine side_and (side_of (map_len (fun _ => rfl))) ?_
    | refine side_and (side_of (map_one (fun _ => rfl) _)) ?_
    | refine side_and ?_ ?_
    | refine LoadK_of rfl rfl ?_
    | (show False; omega)
  all_goals
    conv => whnf
    refine OutA_plain rfl rfl ?_
    first | rfl | (exfalso; omega)

theorem law_PassTime (a W : WatchT) (b : Bool) (by' : Int) (hok : a.ok) (hW : W.ok) (hc : W.Clocks.length ≤ 1048576) (hg : W.Given.length ≤ 1048576)
    (hS : a.w ≤ 1048576 → PC Try.prog false 22 [.agg a.cells, .int .i64 by'] (.tup [.agg [.int .i64 W.True, .own 0, .own 1], .bool b]) (watchOs W.Clocks W.Given))
    (hI : a.w ≤ 1048576 → PC Try.prog false 23 [.agg a.cells, .int .i64 by'] (.tup [.agg [.int .i64 W.True, .own 0, .own 1], .bool b]) (watchOs W.Clocks W.Given)) :
    PC Try.prog false 5 [.agg a.cells, .int .i64 by'] (.bool true) [] := by
  have hw2 : a.w = a.Clocks.length + a.Given.length := rfl
  refine pc_at Try.func5 rfl (by kernel_rfl) 101 [.tmp 4] rfl rfl ?_
  repeat' (conv => whnf); first
    | refine nameB_self (b := b) ?_
    | refine nameB_no (b := !(b == b)) (by simp) ?_
    | refine nameB_dno (by omega) ?_
    | refine nameB_true ?_
    | refine nameB_false ?_
    | refine nameB_yes (by assumption) ?_
    | refine nameB_no (by assumption) ?_
    | refine nameB_dyes (by assumption) ?_
    | refine nameB_dno (by assumption) ?_
    | (refine nameB_dec (fun h => ?_) (fun h => ?_) <;> try simp only [List.length_map, List.length_take, List.length_append, List.length_drop, markList_length, Int.toNat_natCast, fact_byte] at h)
    | (refine nameB_cases (fun h => ?_) (fun h => ?_) <;> try simp only [bne_iff_ne, ne_eq, bne_eq_false_iff_eq, beq_iff_eq, beq_eq_false_iff_ne, Bool.not_eq_true', Bool.not_eq_false', Bool.or_eq_true, Bool.or_eq_false_iff, List.length_map, List.length_take, List.length_append, List.length_drop, markList_length, Int.toNat_natCast, fact_byte] at h)
    | refine splitB_true ?_
    | refine splitB_false ?_
    | (refine splitB_intro (fun h => ?_) (fun h => ?_) <;> subst h)
    | refine ⟨⟨by kernel_rfl, by kernel_rfl, by kernel_rfl⟩, ?_⟩
    | (show Go.Ab.Loop _ _ _; first
        | (refine Loop_at [0] [0, 8224, 8225, 8226, 20496, 20497, 20498, 20528, 20529, 20530, 20592, 24593, 24594, 24608, 28704, 28705, 28706, 28768, 32800, 32801, 32802, 40992, 40993, 40994, 41008, 41009, 41010, 53280, 53281, 53282, 57424, 57425, 57426, 69664, 69665, 69666, 77856, 77857, 77858, 98320, 98321, 98322, 98352, 98353, 98354, 98416, 102432, 102433, 102434, 114720, 114721, 114722, 1000000, 2000000] (Nat) (fun i => i ≤ (a.Clocks).length) (fun i => [(5, .int .i64 (i : Nat)), (1, .int .i64 (1 + 1 * (i : Nat)))]) (fun i => [(24592, ⟨false, 49, 1, (markList 1 ClockT.mark (1) i).map ClockT.cells ++ ((a.Clocks).drop i).map ClockT.cells⟩)]) (fun i => (a.Clocks).length - i) 0 ⟨by first | first | exact congrArg (AV.int IntKind.i64) (by omega) | exact congrArg (AV.int IntKind.i64) ((inc_eq rfl (by omega) (by omega)).trans (by omega)) | rfl | fail, by first | first | exact congrArg (AV.int IntKind.i64) (by omega) | exact congrArg (AV.int IntKind.i64) ((inc_eq rfl (by omega) (by omega)).trans (by omega)) | rfl | fail, trivial⟩ ⟨by first | rfl | exact congrArg (fun e => some (AObj.mk false _ _ e)) (by (try simp only [List.set_set]); exact mark_set hx rfl) | fail | fail, trivial⟩ (by (try dsimp only); first | (exact Nat.zero_le _) | fail) ?_; (conv => whnf); refine side_and (side_of (by first | exact fun i => rfl | exact fun i => by simp [headOk, closedE, closedO, closedL, AV.closed, hcap.closed])) ?_; rintro i hM; try dsimp only at hM)
        | (refine Loop_at [0] [0, 8224, 8225, 8226, 20496, 20497, 20498, 20528, 20529, 20530, 20592, 24592, 24594, 24608, 28704, 28705, 28706, 28768, 32800, 32801, 32802, 40992, 40993, 40994, 41008, 41009, 41010, 53280, 53281, 53282, 57424, 57425, 57426, 69664, 69665, 69666, 77856, 77857, 77858, 98320, 98321, 98322, 98352, 98353, 98354, 98416, 102432, 102433, 102434, 114720, 114721, 114722, 1000000, 2000000] (Nat) (fun i => i ≤ (a.Given).length) (fun i => [(5, .int .i64 (i : Nat)), (1, .int .i64 (1 + 1 * (a.Clocks.length : Int) + 3 * (i : Nat)))]) (fun i => [(24593, ⟨false, 85, 3, (markList 3 LeaseT.mark (1 + 1 * (a.Clocks.length : Int)) i).map LeaseT.cells ++ ((a.Given).drop i).map LeaseT.cells⟩)]) (fun i => (a.Given).length - i) 0 ⟨by first | first | exact congrArg (AV.int IntKind.i64) (by omega) | exact congrArg (AV.int IntKind.i64) ((inc_eq (inc_eq (inc_eq rfl (by omega) (by omega)) (by omega) (by omega)) (by omega) (by omega)).trans (by omega)) | rfl | fail, by first | first | exact congrArg (AV.int IntKind.i64) (by omega) | exact congrArg (AV.int IntKind.i64) ((inc_eq (inc_eq (inc_eq rfl (by omega) (by omega)) (by omega) (by omega)) (by omega) (by omega)).trans (by omega)) | rfl | fail, trivial⟩ ⟨by first | rfl | exact congrArg (fun e => some (AObj.mk false _ _ e)) (by (try simp only [List.set_set]); exact mark_set hx rfl) | fail | fail, trivial⟩ (by (try dsimp only); first | (exact Nat.zero_le _) | fail) ?_; (conv => whnf); refine side_and (side_of (by first | exact fun i => rfl | exact fun i => by simp [headOk, closedE, closedO, closedL, AV.closed, hcap.closed])) ?_; rintro i hM; try dsimp only at hM)
        | (refine Loop_at [0] [0, 8224, 8225, 8226, 20496, 20497, 20498, 20528, 20529, 20530, 20592, 24592, 24593, 24594, 24608, 28705, 28706, 28768, 32800, 32801, 32802, 40992, 40993, 40994, 41008, 41009, 41010, 53280, 53281, 53282, 57424, 57425, 57426, 69664, 69665, 69666, 77856, 77857, 77858, 98320, 98321, 98322, 98352, 98353, 98354, 98416, 102432, 102433, 102434, 114720, 114721, 114722, 1000000, 2000000] (Nat) (fun i => i ≤ (W.Clocks).length) (fun i => [(5, .int .i64 (i : Nat)), (1, .int .i64 (1 + 1 * (i : Nat)))]) (fun i => [(28704, ⟨false, 49, 1, (markList 1 ClockT.mark (1) i).map ClockT.cells ++ ((W.Clocks).drop i).map ClockT.cells⟩)]) (fun i => (W.Clocks).length - i) 0 ⟨by first | first | exact congrArg (AV.int IntKind.i64) (by omega) | exact congrArg (AV.int IntKind.i64) ((inc_eq rfl (by omega) (by omega)).trans (by omega)) | rfl | fail, by first | first | exact congrArg (AV.int IntKind.i64) (by omega) | exact congrArg (AV.int IntKind.i64) ((inc_eq rfl (by omega) (by omega)).trans (by omega)) | rfl | fail, trivial⟩ ⟨by first | rfl | exact congrArg (fun e => some (AObj.mk false _ _ e)) (by (try simp only [List.set_set]); exact mark_set hx rfl) | fail | fail, trivial⟩ (by (try dsimp only); first | (exact Nat.zero_le _) | fail) ?_; (conv => whnf); refine side_and (side_of (by first | exact fun i => rfl | exact fun i => by simp [headOk, closedE, closedO, closedL, AV.closed, hcap.closed])) ?_; rintro i hM; try dsimp only at hM)
        | (refine Loop_at [0] [0, 8224, 8225, 8226, 20496, 20497, 20498, 20528, 20529, 20530, 20592, 24592, 24593, 24594, 24608, 28704, 28706, 28768, 32800, 32801, 32802, 40992, 40993, 40994, 41008, 41009, 41010, 53280, 53281, 53282, 57424, 57425, 57426, 69664, 69665, 69666, 77856, 77857, 77858, 98320, 98321, 98322, 98352, 98353, 98354, 98416, 102432, 102433, 102434, 114720, 114721, 114722, 1000000, 2000000] (Nat) (fun i => i ≤ (W.Given).length) (fun i => [(5, .int .i64 (i : Nat)), (1, .int .i64 (1 + 1 * (W.Clocks.length : Int) + 3 * (i : Nat)))]) (fun i => [(28705, ⟨false, 85, 3, (markList 3 LeaseT.mark (1 + 1 * (W.Clocks.length : Int)) i).map LeaseT.cells ++ ((W.Given).drop i).map LeaseT.cells⟩)]) (fun i => (W.Given).length - i) 0 ⟨by first | first | exact congrArg (AV.int IntKind.i64) (by omega) | exact congrArg (AV.int IntKind.i64) ((inc_eq (inc_eq (inc_eq rfl (by omega) (by omega)) (by omega) (by omega)) (by omega) (by omega)).trans (by omega)) | rfl | fail, by first | first | exact congrArg (AV.int IntKind.i64) (by omega) | exact congrArg (AV.int IntKind.i64) ((inc_eq (inc_eq (inc_eq rfl (by omega) (by omega)) (by omega) (by omega)) (by omega) (by omega)).trans (by omega)) | rfl | fail, trivial⟩ ⟨by first | rfl | exact congrArg (fun e => some (AObj.mk false _ _ e)) (by (try simp only [List.set_set]); exact mark_set hx rfl) | fail | fail, trivial⟩ (by (try dsimp only); first | (exact Nat.zero_le _) | fail) ?_; (conv => whnf); refine side_and (side_of (by first | exact fun i => rfl | exact fun i => by simp [headOk, closedE, closedO, closedL, AV.closed, hcap.closed])) ?_; rintro i hM; try dsimp only at hM))
    | (show Go.Ab.Again _ _ _ _ _ _ _ _ _ _ _; first
        | refine Again_of (i + 1) ⟨by first | rfl | exact i64_next (by omega) | first | exact congrArg (AV.int IntKind.i64) (by omega) | exact congrArg (AV.int IntKind.i64) ((inc_eq rfl (by omega) (by omega)).trans (by omega)) | fail, by first | first | exact congrArg (AV.int IntKind.i64) (by omega) | exact congrArg (AV.int IntKind.i64) ((inc_eq rfl (by omega) (by omega)).trans (by omega)) | rfl | fail, trivial⟩ ⟨by first | rfl | exact congrArg (fun e => some (AObj.mk false _ _ e)) (by (try simp only [List.set_set]); exact mark_set hx rfl) | fail | fail, trivial⟩ (by first | (and_intros <;> first | rfl | trivial) | fail) (by first | (and_intros <;> first | rfl | trivial) | fail) rfl rfl rfl (by (try dsimp only); first | ((show i + 1 ≤ _; omega)) | fail) (show _ < _ by (try dsimp only); omega)
        | refine Again_of (i + 1) ⟨by first | rfl | exact i64_next (by omega) | first | exact congrArg (AV.int IntKind.i64) (by omega) | exact congrArg (AV.int IntKind.i64) ((inc_eq (inc_eq (inc_eq rfl (by omega) (by omega)) (by omega) (by omega)) (by omega) (by omega)).trans (by omega)) | fail, by first | first | exact congrArg (AV.int IntKind.i64) (by omega) | exact congrArg (AV.int IntKind.i64) ((inc_eq (inc_eq (inc_eq rfl (by omega) (by omega)) (by omega) (by omega)) (by omega) (by omega)).trans (by omega)) | rfl | fail, trivial⟩ ⟨by first | rfl | exact congrArg (fun e => some (AObj.mk false _ _ e)) (by (try simp only [List.set_set]); exact mark_set hx rfl) | fail | fail, trivial⟩ (by first | (and_intros <;> first | rfl | trivial) | fail) (by first | (and_intros <;> first | rfl | trivial) | fail) rfl rfl rfl (by (try dsimp only); first | ((show i + 1 ≤ _; omega)) | fail) (show _ < _ by (try dsimp only); omega)
        | refine Again_of (i + 1) ⟨by first | rfl | exact i64_next (by omega) | first | exact congrArg (AV.int IntKind.i64) (by omega) | exact congrArg (AV.int IntKind.i64) ((inc_eq rfl (by omega) (by omega)).trans (by omega)) | fail, by first | first | exact congrArg (AV.int IntKind.i64) (by omega) | exact congrArg (AV.int IntKind.i64) ((inc_eq rfl (by omega) (by omega)).trans (by omega)) | rfl | fail, trivial⟩ ⟨by first | rfl | exact congrArg (fun e => some (AObj.mk false _ _ e)) (by (try simp only [List.set_set]); exact mark_set hx rfl) | fail | fail, trivial⟩ (by first | (and_intros <;> first | rfl | trivial) | fail) (by first | (and_intros <;> first | rfl | trivial) | fail) rfl rfl rfl (by (try dsimp only); first | ((show i + 1 ≤ _; omega)) | fail) (show _ < _ by (try dsimp only); omega)
        | refine Again_of (i + 1) ⟨by first | rfl | exact i64_next (by omega) | first | exact congrArg (AV.int IntKind.i64) (by omega) | exact congrArg (AV.int IntKind.i64) ((inc_eq (inc_eq (inc_eq rfl (by omega) (by omega)) (by omega) (by omega)) (by omega) (by omega)).trans (by omega)) | fail, by first | first | exact congrArg (AV.int IntKind.i64) (by omega) | exact congrArg (AV.int IntKind.i64) ((inc_eq (inc_eq (inc_eq rfl (by omega) (by omega)) (by omega) (by omega)) (by omega) (by omega)).trans (by omega)) | rfl | fail, trivial⟩ ⟨by first | rfl | exact congrArg (fun e => some (AObj.mk false _ _ e)) (by (try simp only [List.set_set]); exact mark_set hx rfl) | fail | fail, trivial⟩ (by first | (and_intros <;> first | rfl | trivial) | fail) (by first | (and_intros <;> first | rfl | trivial) | fail) rfl rfl rfl (by (try dsimp only); first | ((show i + 1 ≤ _; omega)) | fail) (show _ < _ by (try dsimp only); omega))
    | (show Go.Ab.CallA _ _ _ _ _ _ _; first
        | (by_cases hn : (1048576 : Int) - ((WatchT.w a : Nat) : Int) < 0 <;> first | refine Call0 (pc_szneg (c_laws_szWatch a (1048576 : Int) (by omega) (by omega) hok) hn) rfl rfl ?_ | refine Call0 (pc_szpos (c_laws_szWatch a (1048576 : Int) (by omega) (by omega) hok) hn) rfl rfl ?_)
        | refine CallF (hS (by omega)) rfl rfl rfl (Nat.le_of_ble_eq_true rfl) ?_
        | refine CallF (hI (by omega)) rfl rfl rfl (Nat.le_of_ble_eq_true rfl) ?_
        | refine CallF (c_laws_toWatch a (by omega)) rfl rfl rfl (Nat.le_of_ble_eq_true rfl) ?_
        | refine Call0 (pc_true (c_laws_eqWatch W W hW) rfl) rfl rfl ?_
        | refine Call0 (pc_true (c_laws_eqWatch a a hok) rfl) rfl rfl ?_
        | refine CallI (nid := 4096 * 13 + 16 * 2) (f := 16) Try.func16 rfl (by kernel_rfl) 1000000 [1, 2, 6, 7, 9, 10] 14 [.tmp 4] rfl rfl ?_
        | refine CallI (nid := 4096 * 17 + 16 * 2) (f := 16) Try.func16 rfl (by kernel_rfl) 2000000 [1, 2, 6, 7, 9] 14 [.tmp 4] rfl rfl ?_
        | refine CallI (f := 50) Try.func50 rfl (by kernel_rfl) 3000000 [2] 20 [.tmp 4] rfl rfl ?_
        | refine CallI (f := 51) Try.func51 rfl (by kernel_rfl) 4000000 [] 34 [.tmp 4] rfl rfl ?_
        | refine Call0 (c_laws_heldWatch W.True W.Clocks.length W.Given.length hc hg) (held_watch (mark_end (by omega) (by omega)) (mark_end (by omega) (by omega))) rfl ?_)
    | (show Go.Ab.CallD _ _ _ _ _ _ _; first
        | (by_cases hn : (1048576 : Int) - ((WatchT.w a : Nat) : Int) < 0 <;> first | refine CallD0 (pc_szneg (c_laws_szWatch a (1048576 : Int) (by omega) (by omega) hok) hn) rfl rfl rfl ?_ | refine CallD0 (pc_szpos (c_laws_szWatch a (1048576 : Int) (by omega) (by omega) hok) hn) rfl rfl rfl ?_)
        | refine CallDF (hS (by omega)) rfl rfl ⟨rfl, rfl⟩ ?_
        | refine CallDF (hI (by omega)) rfl rfl ⟨rfl, rfl⟩ ?_
        | refine CallDF (c_laws_toWatch a (by omega)) rfl rfl ⟨rfl, rfl⟩ ?_
        | refine CallD0 (pc_true (c_laws_eqWatch W W hW) rfl) rfl rfl rfl ?_
        | refine CallD0 (pc_true (c_laws_eqWatch a a hok) rfl) rfl rfl rfl ?_
        | refine CallD0 (c_laws_heldWatch W.True W.Clocks.length W.Given.length hc hg) (held_watch (mark_end (by omega) (by omega)) (mark_end (by omega) (by omega))) rfl ?_)
    | (show Go.Ab.RetI _ _ _ _ _ _ _ _; refine RetI_of rfl ?_)
    | refine ix_map_at hx ?_
    | refine ix_map_at hy ?_
    | refine sl_pre (by omega) (fun _ => rfl) ?_
    | refine sl_suf (by omega) (fun _ => rfl) ?_
    | (refine ix_map2 hx (by omega) (by (try simp only [List.length_take]); omega) (fun y hy => ?_); try simp only [Int.toNat_natCast] at hy)
    | (refine ix_map (by omega) (by (try simp only [List.length_take]); omega) (fun x hx => ?_); try simp only [Int.toNat_natCast] at hx)
    | refine side_and (side_of (by first | (and_intros <;> first | exact Nat.le_of_ble_eq_true rfl | rfl | omega | (simp only [List.length_map, List.length_append, List.length_replicate, List.length_take, List.length_cons, List.length_nil, List.length_drop, List.length_set, markList_length]; omega) | exact bytes_ok (Nat.le_of_ble_eq_true rfl) (by omega) (by simp only [List.length_map, List.length_append, List.length_replicate, List.length_take, List.length_cons, List.length_nil, List.length_drop, List.length_set, markList_length]; omega) | exact bytes_okN (Nat.le_of_ble_eq_true rfl) (by simp only [List.length_map, List.length_append, List.length_replicate, List.length_take, List.length_cons, List.length_nil, List.length_drop, List.length_set, markList_length]; omega)) | fail)) ?_
    | refine nilB_intro (fun h => ?_) ?_
    | refine side_and (side_of (map_len (fun _ => rfl))) ?_
    | refine side_and (side_of (map_one (fun _ => rfl) _)) ?_
    | refine side_and ?_ ?_
    | refine LoadK_of rfl rfl ?_
    | (obtain ⟨x, hx⟩ := get_lt (xs := a.Clocks) (i := i) (by omega); refine ix_mark (by simp only [List.length_map, markList_length]) hx ?_)
    | refine ix_set (by simp only [List.length_map, List.length_append, List.length_drop, List.length_set, markList_length]; omega) ?_
    | (obtain ⟨x, hx⟩ := get_lt (xs := a.Given) (i := i) (by omega); refine ix_mark (by simp only [List.length_map, markList_length]) hx ?_)
    | refine ix_set (by simp only [List.length_map, List.length_append, List.length_drop, List.length_set, markList_length]; omega) ?_
    | (obtain ⟨x, hx⟩ := get_lt (xs := W.Clocks) (i := i) (by omega); refine ix_mark (by simp only [List.length_map, markList_length]) hx ?_)
    | refine ix_set (by simp only [List.length_map, List.length_append, List.length_drop, List.length_set, markList_length]; omega) ?_
    | (obtain ⟨x, hx⟩ := get_lt (xs := W.Given) (i := i) (by omega); refine ix_mark (by simp only [List.length_map, markList_length]) hx ?_)
    | refine ix_set (by simp only [List.length_map, List.length_append, List.length_drop, List.length_set, markList_length]; omega) ?_
    | (show False; omega)
  all_goals
    conv => whnf
    refine OutA_plain rfl rfl ?_
    first | rfl | (exfalso; omega) | (exfalso; simp at *; omega)
theorem okS_trivial : True := trivial
theorem c_laws_FnExactPassTime (a : WatchT) (by' : Int) (hok : a.ok) : PC Try.prog false 5 [.agg a.cells, .int .i64 by'] (.bool true) [] := by
  by_cases hw : a.w ≤ 1048576
  · have hw2 : a.w = a.Clocks.length + a.Given.length := rfl
    refine law_PassTime a (resW (okPass a by') (passW a by')) (okPass a by') by' hok ?_ ?_ ?_ (c_spec_PassTime a by' hok) (c_impl_PassTime a by' hok)
    · cases okPass a by' with
      | true => exact hok
      | false => exact ⟨trivial, ⟨Nat.zero_le _, fun _ h => by cases h⟩, ⟨Nat.zero_le _, fun _ h => by cases h⟩⟩
    · cases okPass a by' with
      | true => show a.Clocks.length ≤ _; omega
      | false => exact Nat.zero_le _
    · cases okPass a by' with
      | true => show a.Given.length ≤ _; omega
      | false => exact Nat.zero_le _
  · refine law_PassTime a ⟨0, [], []⟩ false by' hok ⟨trivial, ⟨Nat.zero_le _, fun _ h => by cases h⟩, ⟨Nat.zero_le _, fun _ h => by cases h⟩⟩ (Nat.zero_le _) (Nat.zero_le _) (fun h => absurd h hw) (fun h => absurd h hw)
end Go.Proofs.Ytcdlapjpnenkdaa
