/-
  What the functions that make a lease table give.
  No condition.
-/
import Derived.Test.YtpknpdgjgffhiaaWatch3
namespace Go.Proofs.Ytpknpdgjgffhiaa
open Go.Ab Go.RowKit
set_option linter.unusedSimpArgs false
set_option maxRecDepth 20000
set_option maxHeartbeats 2000000
set_option linter.unusedVariables false

theorem pc_weak {P : Program} {sh : Bool} {f : Nat} {args args' : List AV} {r : AV} {os : List AObj} (h : PC P sh f args r os) (hw : ∀ w ro vals, LR w ro args' vals → LR w ro args vals) : PC P sh f args' r os :=
  ⟨fun w R vals hR hl => h.run w R vals hR (hw w R vals hl)⟩
theorem nil_sl {w : World} {ro : Nat → Prop} {v : Value} (h : RR w ro .nil v) : RR w ro (.sl []) v := by
  unfold RR at h ⊢
  obtain ⟨base, rfl⟩ := h
  exact ⟨base, 0, rfl, Nat.le_refl _, .inl rfl⟩
theorem nil_last {w : World} {ro : Nat → Prop} {x y : AV} {vals : List Value} (h : LR w ro [.agg [x, y, .nil]] vals) : LR w ro [.agg [x, y, .sl []]] vals := by
  match vals, h with
  | [], h => unfold LR at h; exact h.elim
  | [v], h =>
    unfold LR at h ⊢
    refine ⟨?_, h.2⟩
    have h1 := h.1
    unfold RR at h1 ⊢
    obtain ⟨vs, rfl, h2⟩ := h1
    refine ⟨vs, rfl, ?_⟩
    match hv : vs.toList, h2 with
    | [a, b, c], h2 =>
      unfold LR at h2 ⊢
      refine ⟨h2.1, ?_⟩
      have h3 := h2.2
      unfold LR at h3 ⊢
      refine ⟨h3.1, ?_⟩
      have h4 := h3.2
      unfold LR at h4 ⊢
      exact ⟨nil_sl h4.1, h4.2⟩
    | [], h2 => unfold LR at h2; exact h2.elim
    | [_], h2 => unfold LR at h2; have h3 := h2.2; unfold LR at h3; exact h3.elim
    | [_, _], h2 => unfold LR at h2; have h3 := h2.2; unfold LR at h3; have h4 := h3.2; unfold LR at h4; exact h4.elim
    | _ :: _ :: _ :: _ :: _, h2 => unfold LR at h2; have h3 := h2.2; unfold LR at h3; have h4 := h3.2; unfold LR at h4; have h5 := h4.2; unfold LR at h5; exact h5.elim
  | _ :: _ :: _, h => unfold LR at h; have h2 := h.2; unfold LR at h2; exact h2.elim
def newW (cs : List ClockT) : WatchT := ⟨0, cs, []⟩
theorem new_okk {cs : List ClockT} (hok : okL ClockT.ok cs) : (newW cs).ok := ⟨trivial, hok, ⟨Nat.zero_le _, fun _ h => by cases h⟩⟩
theorem c_impl_NewWatch (cs : List ClockT) (hok : okL ClockT.ok cs) (hl : cs.length ≤ 1048576) : PC Try.prog false 59 [.sl (cs.map ClockT.cells)] (.tup [.agg [.int .i64 (resW (okWatch (newW cs)) (newW cs)).True, .own 0, .own 1], .bool (okWatch (newW cs))]) (watchOs (resW (okWatch (newW cs)) (newW cs)).Clocks (resW (okWatch (newW cs)) (newW cs)).Given) := by
  refine pc_at Try.func59 rfl (by kernel_rfl) 10 [.cell 2 55, .tmp 3] rfl rfl ?_
  repeat' (conv => whnf); first
    | refine nameB_true ?_
    | refine nameB_false ?_
    | refine nameB_yes (by assumption) ?_
    | refine nameB_no (by assumption) ?_
    | refine nameB_dyes (by assumption) ?_
    | refine nameB_dno (by assumption) ?_
    | (refine nameB_dec (fun h => ?_) (fun h => ?_) <;> try simp only [List.length_map, List.length_take, List.length_append, List.length_drop, markList_length, Int.toNat_natCast, fact_byte] at h)
    | (refine nameB_cases (fun h => ?_) (fun h => ?_) <;> try simp only [bne_iff_ne, ne_eq, bne_eq_false_iff_eq, beq_iff_eq, beq_eq_false_iff_ne, Bool.not_eq_true', Bool.not_eq_false', Bool.or_eq_true, Bool.or_eq_false_iff, List.length_map, List.length_take, List.length_append, List.length_drop, markList_length, Int.toNat_natCast, fact_byte] at h)
    | refine splitB_true ?_
    | refine splitB_false ?_
    | (refine splitB_intro (fun h => ?_) (fun h => ?_) <;> subst h)
    | refine ⟨⟨by kernel_rfl, by kernel_rfl, by kernel_rfl⟩, ?_⟩
    | (show Go.Ab.CallA _ _ _ _ _ _ _; first
        | refine CallF (c_Clone_Clock cs hl) rfl rfl rfl (Nat.le_of_ble_eq_true rfl) ?_
        | refine CallI (nid := 4096 * 1 + 16 * 3) (f := 126) Try.func126 rfl (by kernel_rfl) 1000000 [2] 9 [.cell 2 55, .tmp 3] rfl rfl ?_
        | refine Call0 (pc_weak (c_impl_GoodWatch (newW cs) (new_okk hok)) (fun w ro vals h => nil_last h)) rfl rfl ?_)
    | (show Go.Ab.RetI _ _ _ _ _ _ _ _; refine RetI_of rfl ?_)
    | refine ix_map_at hx ?_
    | refine ix_map_at hy ?_
    | refine sl_pre (by omega) (fun _ => rfl) ?_
    | refine sl_suf (by omega) (fun _ => rfl) ?_
    | (refine ix_map2 hx (by omega) (by (try simp only [List.length_take]); omega) (fun y hy => ?_); try simp only [Int.toNat_natCast] at hy)
    | (refine ix_map (by omega) (by (try simp only [List.length_take]); omega) (fun x hx => ?_); try simp only [Int.toNat_natCast] at hx)
    | refine side_and (side_of (by first | (and_intros <;> first | exact Nat.le_of_ble_eq_true rfl | rfl | omega | (simp only [List.length_map, List.length_append, List.length_replicate, List.length_take, List.length_cons, List.length_nil, List.length_drop, List.length_set, markList_length]; omega) | exact bytes_ok (Nat.le_of_ble_eq_true rfl) (by omega) (by simp only [List.length_map, List.length_append, List.length_replicate, List.length_take, List.length_cons, List.length_nil, List.length_drop, List.length_set, markList_length]; omega) | exact bytes_okN (Nat.le_of_ble_eq_true rfl) (by simp only [List.length_map, List.length_append, List.length_replicate, List.length_take, List.length_cons, List.length_nil, List.length_drop, List.length_set, markList_length]; omega)) | fail)) ?_
    | refine nilB_intro (fun h => ?_) ?_
    | refine side_and (side_of (map_len (fun _ => rfl))) ?_
    | refine side_and (side_of (map_one (fun _ => rfl) _)) ?_
    | refine side_and ?_ ?_
    | refine LoadK_of rfl rfl ?_
    | (show False; omega)
  all_goals
    conv => whnf
    first
    | (rw [show okWatch (newW cs) = true by assumption]; exact OutA_nilB 0 2 119 3 2 rfl rfl rfl (by decide) (OutA_ids rfl rfl rfl ⟨⟨_, _, _, rfl, rfl⟩, ⟨_, _, _, rfl, rfl⟩, trivial⟩ rfl (.inr watch_flat)))
    | (rw [show okWatch (newW cs) = false by assumption]; exact OutA_nilB 0 1 140 1 1 rfl rfl rfl (by decide) (OutA_nilB 0 2 119 3 2 rfl rfl rfl (by decide) (OutA_ids rfl rfl rfl ⟨⟨_, _, _, rfl, rfl⟩, ⟨_, _, _, rfl, rfl⟩, trivial⟩ rfl (.inr watch_flat))))
theorem c_spec_NewWatch (cs : List ClockT) (hok : okL ClockT.ok cs) (hl : cs.length ≤ 1048576) : PC Try.prog false 57 [.sl (cs.map ClockT.cells)] (.tup [.agg [.int .i64 (resW (okWatch (newW cs)) (newW cs)).True, .own 0, .own 1], .bool (okWatch (newW cs))]) (watchOs (resW (okWatch (newW cs)) (newW cs)).Clocks (resW (okWatch (newW cs)) (newW cs)).Given) := by
  refine pc_at Try.func57 rfl (by kernel_rfl) 10 [.cell 2 55, .tmp 3] rfl rfl ?_
  repeat' (conv => whnf); first
    | refine nameB_true ?_
    | refine nameB_false ?_
    | refine nameB_yes (by assumption) ?_
    | refine nameB_no (by assumption) ?_
    | refine nameB_dyes (by assumption) ?_
    | refine nameB_dno (by assumption) ?_
    | (refine nameB_dec (fun h => ?_) (fun h => ?_) <;> try simp only [List.length_map, List.length_take, List.length_append, List.length_drop, markList_length, Int.toNat_natCast, fact_byte] at h)
    | (refine nameB_cases (fun h => ?_) (fun h => ?_) <;> try simp only [bne_iff_ne, ne_eq, bne_eq_false_iff_eq, beq_iff_eq, beq_eq_false_iff_ne, Bool.not_eq_true', Bool.not_eq_false', Bool.or_eq_true, Bool.or_eq_false_iff, List.length_map, List.length_take, List.length_append, List.length_drop, markList_length, Int.toNat_natCast, fact_byte] at h)
    | refine splitB_true ?_
    | refine splitB_false ?_
    | (refine splitB_intro (fun h => ?_) (fun h => ?_) <;> subst h)
    | refine ⟨⟨by kernel_rfl, by kernel_rfl, by kernel_rfl⟩, ?_⟩
    | (show Go.Ab.CallA _ _ _ _ _ _ _; first
        | refine CallF (pc_weak (c_spec_l10Own (newW cs) (show cs.length + 0 ≤ 1048576 by omega)) (fun w ro vals h => nil_last h)) rfl rfl rfl (Nat.le_of_ble_eq_true rfl) ?_
        | refine CallI (nid := 4096 * 1 + 16 * 3) (f := 123) Try.func123 rfl (by kernel_rfl) 1000000 [2] 9 [.cell 2 55, .tmp 3] rfl rfl ?_
        | refine Call0 (c_spec_l10Good (newW cs) (new_okk hok)) rfl rfl ?_)
    | (show Go.Ab.RetI _ _ _ _ _ _ _ _; refine RetI_of rfl ?_)
    | refine ix_map_at hx ?_
    | refine ix_map_at hy ?_
    | refine sl_pre (by omega) (fun _ => rfl) ?_
    | refine sl_suf (by omega) (fun _ => rfl) ?_
    | (refine ix_map2 hx (by omega) (by (try simp only [List.length_take]); omega) (fun y hy => ?_); try simp only [Int.toNat_natCast] at hy)
    | (refine ix_map (by omega) (by (try simp only [List.length_take]); omega) (fun x hx => ?_); try simp only [Int.toNat_natCast] at hx)
    | refine side_and (side_of (by first | (and_intros <;> first | exact Nat.le_of_ble_eq_true rfl | rfl | omega | (simp only [List.length_map, List.length_append, List.length_replicate, List.length_take, List.length_cons, List.length_nil, List.length_drop, List.length_set, markList_length]; omega) | exact bytes_ok (Nat.le_of_ble_eq_true rfl) (by omega) (by simp only [List.length_map, List.length_append, List.length_replicate, List.length_take, List.length_cons, List.length_nil, List.length_drop, List.length_set, markList_length]; omega) | exact bytes_okN (Nat.le_of_ble_eq_true rfl) (by simp only [List.length_map, List.length_append, List.length_replicate, List.length_take, List.length_cons, List.length_nil, List.length_drop, List.length_set, markList_length]; omega)) | fail)) ?_
    | refine nilB_intro (fun h => ?_) ?_
    | refine side_and (side_of (map_len (fun _ => rfl))) ?_
    | refine side_and (side_of (map_one (fun _ => rfl) _)) ?_
    | refine side_and ?_ ?_
    | refine LoadK_of rfl rfl ?_
    | (show False; omega)
  all_goals
    conv => whnf
    first
    | (rw [show okWatch (newW cs) = true by assumption]; exact OutA_ids rfl rfl rfl ⟨⟨_, _, _, rfl, rfl⟩, ⟨_, _, _, rfl, rfl⟩, trivial⟩ rfl (.inr watch_flat))
    | (rw [show okWatch (newW cs) = false by assumption]; exact OutA_nilB 0 1 140 1 1 rfl rfl rfl (by decide) (OutA_nilB 0 2 119 3 2 rfl rfl rfl (by decide) (OutA_ids rfl rfl rfl ⟨⟨_, _, _, rfl, rfl⟩, ⟨_, _, _, rfl, rfl⟩, trivial⟩ rfl (.inr watch_flat))))
theorem law_NewWatch (a : List ClockT) (W : WatchT) (b : Bool) (hok : okL ClockT.ok a) (hW : W.ok) (hc : W.Clocks.length ≤ 1048576) (hg : W.Given.length ≤ 1048576)
    (hS : a.length ≤ 1048576 → PC Try.prog false 57 [.sl (a.map ClockT.cells)] (.tup [.agg [.int .i64 W.True, .own 0, .own 1], .bool b]) (watchOs W.Clocks W.Given))
    (hI : a.length ≤ 1048576 → PC Try.prog false 59 [.sl (a.map ClockT.cells)] (.tup [.agg [.int .i64 W.True, .own 0, .own 1], .bool b]) (watchOs W.Clocks W.Given)) :
    PC Try.prog false 13 [.sl (a.map ClockT.cells)] (.bool true) [] := by
  refine pc_at Try.func13 rfl (by kernel_rfl) 96 [.tmp 2] rfl rfl ?_
  repeat' (conv => whnf); first
    | refine nameB_self (b := b) ?_
    | refine nameB_no (b := !(b == b)) (by simp) ?_
    | refine nameB_dno (by omega) ?_
    | refine nameB_true ?_
    | refine nameB_false ?_
    | refine nameB_yes (by assumption) ?_
    | refine nameB_no (by assumption) ?_
    | refine nameB_dyes (by assumption) ?_
    | refine nameB_dno (by assumption) ?_
    | (refine nameB_dec (fun h => ?_) (fun h => ?_) <;> try simp only [List.length_map, List.length_take, List.length_append, List.length_drop, markList_length, Int.toNat_natCast, fact_byte] at h)
    | (refine nameB_cases (fun h => ?_) (fun h => ?_) <;> try simp only [bne_iff_ne, ne_eq, bne_eq_false_iff_eq, beq_iff_eq, beq_eq_false_iff_ne, Bool.not_eq_true', Bool.not_eq_false', Bool.or_eq_true, Bool.or_eq_false_iff, List.length_map, List.length_take, List.length_append, List.length_drop, markList_length, Int.toNat_natCast, fact_byte] at h)
    | refine splitB_true ?_
    | refine splitB_false ?_
    | (refine splitB_intro (fun h => ?_) (fun h => ?_) <;> subst h)
    | refine ⟨⟨by kernel_rfl, by kernel_rfl, by kernel_rfl⟩, ?_⟩
    | (show Go.Ab.Loop _ _ _; first
        | (refine Loop_at [0] [8224, 8225, 8226, 20496, 20497, 20498, 20512, 20513, 20514, 20576, 24593, 24594, 28688, 28689, 28690, 28752, 32800, 32801, 32802, 40992, 40993, 40994, 41008, 41009, 41010, 53280, 53281, 53282, 57424, 57425, 57426, 69664, 69665, 69666, 77856, 77857, 77858, 98320, 98321, 98322, 98336, 98337, 98338, 98400, 102432, 102433, 102434, 114720, 114721, 114722, 1000000] (Nat) (fun i => i ≤ (a).length) (fun i => [(5, .int .i64 (i : Nat)), (1, .int .i64 (1 + 1 * (i : Nat)))]) (fun i => [(24592, ⟨false, 140, 1, (markList 1 ClockT.mark (1) i).map ClockT.cells ++ ((a).drop i).map ClockT.cells⟩)]) (fun i => (a).length - i) 0 ⟨by first | first | exact congrArg (AV.int IntKind.i64) (by omega) | exact congrArg (AV.int IntKind.i64) ((inc_eq rfl (by omega) (by omega)).trans (by omega)) | rfl | fail, by first | first | exact congrArg (AV.int IntKind.i64) (by omega) | exact congrArg (AV.int IntKind.i64) ((inc_eq rfl (by omega) (by omega)).trans (by omega)) | rfl | fail, trivial⟩ ⟨by first | rfl | exact congrArg (fun e => some (AObj.mk false _ _ e)) (by (try simp only [List.set_set]); exact mark_set hx rfl) | fail | fail, trivial⟩ (by (try dsimp only); first | (exact Nat.zero_le _) | fail) ?_; (conv => whnf); refine side_and (side_of (by first | exact fun i => rfl | exact fun i => by simp [headOk, closedE, closedO, closedL, AV.closed, hcap.closed])) ?_; rintro i hM; try dsimp only at hM)
        | (refine Loop_at [0] [8224, 8225, 8226, 20496, 20497, 20498, 20512, 20513, 20514, 20576, 24592, 24593, 24594, 28689, 28690, 28752, 32800, 32801, 32802, 40992, 40993, 40994, 41008, 41009, 41010, 53280, 53281, 53282, 57424, 57425, 57426, 69664, 69665, 69666, 77856, 77857, 77858, 98320, 98321, 98322, 98336, 98337, 98338, 98400, 102432, 102433, 102434, 114720, 114721, 114722, 1000000] (Nat) (fun i => i ≤ (W.Clocks).length) (fun i => [(5, .int .i64 (i : Nat)), (1, .int .i64 (1 + 1 * (i : Nat)))]) (fun i => [(28688, ⟨false, 140, 1, (markList 1 ClockT.mark (1) i).map ClockT.cells ++ ((W.Clocks).drop i).map ClockT.cells⟩)]) (fun i => (W.Clocks).length - i) 0 ⟨by first | first | exact congrArg (AV.int IntKind.i64) (by omega) | exact congrArg (AV.int IntKind.i64) ((inc_eq rfl (by omega) (by omega)).trans (by omega)) | rfl | fail, by first | first | exact congrArg (AV.int IntKind.i64) (by omega) | exact congrArg (AV.int IntKind.i64) ((inc_eq rfl (by omega) (by omega)).trans (by omega)) | rfl | fail, trivial⟩ ⟨by first | rfl | exact congrArg (fun e => some (AObj.mk false _ _ e)) (by (try simp only [List.set_set]); exact mark_set hx rfl) | fail | fail, trivial⟩ (by (try dsimp only); first | (exact Nat.zero_le _) | fail) ?_; (conv => whnf); refine side_and (side_of (by first | exact fun i => rfl | exact fun i => by simp [headOk, closedE, closedO, closedL, AV.closed, hcap.closed])) ?_; rintro i hM; try dsimp only at hM)
        | (refine Loop_at [0] [8224, 8225, 8226, 20496, 20497, 20498, 20512, 20513, 20514, 20576, 24592, 24593, 24594, 28688, 28690, 28752, 32800, 32801, 32802, 40992, 40993, 40994, 41008, 41009, 41010, 53280, 53281, 53282, 57424, 57425, 57426, 69664, 69665, 69666, 77856, 77857, 77858, 98320, 98321, 98322, 98336, 98337, 98338, 98400, 102432, 102433, 102434, 114720, 114721, 114722, 1000000] (Nat) (fun i => i ≤ (W.Given).length) (fun i => [(5, .int .i64 (i : Nat)), (1, .int .i64 (1 + 1 * (W.Clocks.length : Int) + 3 * (i : Nat)))]) (fun i => [(28689, ⟨false, 119, 3, (markList 3 LeaseT.mark (1 + 1 * (W.Clocks.length : Int)) i).map LeaseT.cells ++ ((W.Given).drop i).map LeaseT.cells⟩)]) (fun i => (W.Given).length - i) 0 ⟨by first | first | exact congrArg (AV.int IntKind.i64) (by omega) | exact congrArg (AV.int IntKind.i64) ((inc_eq (inc_eq (inc_eq rfl (by omega) (by omega)) (by omega) (by omega)) (by omega) (by omega)).trans (by omega)) | rfl | fail, by first | first | exact congrArg (AV.int IntKind.i64) (by omega) | exact congrArg (AV.int IntKind.i64) ((inc_eq (inc_eq (inc_eq rfl (by omega) (by omega)) (by omega) (by omega)) (by omega) (by omega)).trans (by omega)) | rfl | fail, trivial⟩ ⟨by first | rfl | exact congrArg (fun e => some (AObj.mk false _ _ e)) (by (try simp only [List.set_set]); exact mark_set hx rfl) | fail | fail, trivial⟩ (by (try dsimp only); first | (exact Nat.zero_le _) | fail) ?_; (conv => whnf); refine side_and (side_of (by first | exact fun i => rfl | exact fun i => by simp [headOk, closedE, closedO, closedL, AV.closed, hcap.closed])) ?_; rintro i hM; try dsimp only at hM))
    | (show Go.Ab.Again _ _ _ _ _ _ _ _ _ _ _; first
        | refine Again_of (i + 1) ⟨by first | rfl | exact i64_next (by omega) | first | exact congrArg (AV.int IntKind.i64) (by omega) | exact congrArg (AV.int IntKind.i64) ((inc_eq rfl (by omega) (by omega)).trans (by omega)) | fail, by first | first | exact congrArg (AV.int IntKind.i64) (by omega) | exact congrArg (AV.int IntKind.i64) ((inc_eq rfl (by omega) (by omega)).trans (by omega)) | rfl | fail, trivial⟩ ⟨by first | rfl | exact congrArg (fun e => some (AObj.mk false _ _ e)) (by (try simp only [List.set_set]); exact mark_set hx rfl) | fail | fail, trivial⟩ (by first | (and_intros <;> first | rfl | trivial) | fail) (by first | (and_intros <;> first | rfl | trivial) | fail) rfl rfl rfl (by (try dsimp only); first | ((show i + 1 ≤ _; omega)) | fail) (show _ < _ by (try dsimp only); omega)
        | refine Again_of (i + 1) ⟨by first | rfl | exact i64_next (by omega) | first | exact congrArg (AV.int IntKind.i64) (by omega) | exact congrArg (AV.int IntKind.i64) ((inc_eq rfl (by omega) (by omega)).trans (by omega)) | fail, by first | first | exact congrArg (AV.int IntKind.i64) (by omega) | exact congrArg (AV.int IntKind.i64) ((inc_eq rfl (by omega) (by omega)).trans (by omega)) | rfl | fail, trivial⟩ ⟨by first | rfl | exact congrArg (fun e => some (AObj.mk false _ _ e)) (by (try simp only [List.set_set]); exact mark_set hx rfl) | fail | fail, trivial⟩ (by first | (and_intros <;> first | rfl | trivial) | fail) (by first | (and_intros <;> first | rfl | trivial) | fail) rfl rfl rfl (by (try dsimp only); first | ((show i + 1 ≤ _; omega)) | fail) (show _ < _ by (try dsimp only); omega)
        | refine Again_of (i + 1) ⟨by first | rfl | exact i64_next (by omega) | first | exact congrArg (AV.int IntKind.i64) (by omega) | exact congrArg (AV.int IntKind.i64) ((inc_eq (inc_eq (inc_eq rfl (by omega) (by omega)) (by omega) (by omega)) (by omega) (by omega)).trans (by omega)) | fail, by first | first | exact congrArg (AV.int IntKind.i64) (by omega) | exact congrArg (AV.int IntKind.i64) ((inc_eq (inc_eq (inc_eq rfl (by omega) (by omega)) (by omega) (by omega)) (by omega) (by omega)).trans (by omega)) | rfl | fail, trivial⟩ ⟨by first | rfl | exact congrArg (fun e => some (AObj.mk false _ _ e)) (by (try simp only [List.set_set]); exact mark_set hx rfl) | fail | fail, trivial⟩ (by first | (and_intros <;> first | rfl | trivial) | fail) (by first | (and_intros <;> first | rfl | trivial) | fail) rfl rfl rfl (by (try dsimp only); first | ((show i + 1 ≤ _; omega)) | fail) (show _ < _ by (try dsimp only); omega))
    | (show Go.Ab.CallA _ _ _ _ _ _ _; first
        | (by_cases hn : (1048576 : Int) - ((a.length : Nat) : Int) < 0 <;> first | refine Call0 (pc_szneg (c_laws_szClockS a (1048576 : Int) (by omega) (by omega) hok) hn) rfl rfl ?_ | refine Call0 (pc_szpos (c_laws_szClockS a (1048576 : Int) (by omega) (by omega) hok) hn) rfl rfl ?_)
        | refine CallF (hS (by omega)) rfl rfl rfl (Nat.le_of_ble_eq_true rfl) ?_
        | refine CallF (hI (by omega)) rfl rfl rfl (Nat.le_of_ble_eq_true rfl) ?_
        | refine CallF (c_laws_toClockS a (by omega)) rfl rfl rfl (Nat.le_of_ble_eq_true rfl) ?_
        | refine Call0 (pc_true (c_laws_eqWatch W W hW) rfl) rfl rfl ?_
        | refine Call0 (pc_true (c_laws_eqClockS a a hok) rfl) rfl rfl ?_
        | refine CallI (nid := 4096 * 17 + 16 * 2) (f := 62) Try.func62 rfl (by kernel_rfl) 1000000 [0, 4, 5, 7] 14 [.tmp 4] rfl rfl ?_
        | refine CallI (nid := 4096 * 13 + 16 * 2) (f := 61) Try.func61 rfl (by kernel_rfl) 2000000 [0, 4, 5, 7, 8] 20 [.tmp 4] rfl rfl ?_
        | refine CallI (f := 61) Try.func61 rfl (by kernel_rfl) 3000000 [2] 20 [.tmp 4] rfl rfl ?_
        | refine CallI (f := 129) Try.func129 rfl (by kernel_rfl) 4000000 [] 34 [.tmp 4] rfl rfl ?_
        | refine Call0 (c_laws_heldWatch W.True W.Clocks.length W.Given.length hc hg) (held_watch (mark_end (by omega) (by omega)) (mark_end (by omega) (by omega))) rfl ?_)
    | (show Go.Ab.RetI _ _ _ _ _ _ _ _; refine RetI_of rfl ?_)
    | refine ix_map_at hx ?_
    | refine ix_map_at hy ?_
    | refine sl_pre (by omega) (fun _ => rfl) ?_
    | refine sl_suf (by omega) (fun _ => rfl) ?_
    | (refine ix_map2 hx (by omega) (by (try simp only [List.length_take]); omega) (fun y hy => ?_); try simp only [Int.toNat_natCast] at hy)
    | (refine ix_map (by omega) (by (try simp only [List.length_take]); omega) (fun x hx => ?_); try simp only [Int.toNat_natCast] at hx)
    | refine side_and (side_of (by first | (and_intros <;> first | exact Nat.le_of_ble_eq_true rfl | rfl | omega | (simp only [List.length_map, List.length_append, List.length_replicate, List.length_take, List.length_cons, List.length_nil, List.length_drop, List.length_set, markList_length]; omega) | exact bytes_ok (Nat.le_of_ble_eq_true rfl) (by omega) (by simp only [List.length_map, List.length_append, List.length_replicate, List.length_take, List.length_cons, List.length_nil, List.length_drop, List.length_set, markList_length]; omega) | exact bytes_okN (Nat.le_of_ble_eq_true rfl) (by simp only [List.length_map, List.length_append, List.length_replicate, List.length_take, List.length_cons, List.length_nil, List.length_drop, List.length_set, markList_length]; omega)) | fail)) ?_
    | refine nilB_intro (fun h => ?_) ?_
    | refine side_and (side_of (map_len (fun _ => rfl))) ?_
    | refine side_and (side_of (map_one (fun _ => rfl) _)) ?_
    | refine side_and ?_ ?_
    | refine LoadK_of rfl rfl ?_
    | (obtain ⟨x, hx⟩ := get_lt (xs := a) (i := i) (by omega); refine ix_mark (by simp only [List.length_map, markList_length]) hx ?_)
    | refine ix_set (by simp only [List.length_map, List.length_append, List.length_drop, List.length_set, markList_length]; omega) ?_
    | (obtain ⟨x, hx⟩ := get_lt (xs := W.Clocks) (i := i) (by omega); refine ix_mark (by simp only [List.length_map, markList_length]) hx ?_)
    | refine ix_set (by simp only [List.length_map, List.length_append, List.length_drop, List.length_set, markList_length]; omega) ?_
    | (obtain ⟨x, hx⟩ := get_lt (xs := W.Given) (i := i) (by omega); refine ix_mark (by simp only [List.length_map, markList_length]) hx ?_)
    | refine ix_set (by simp only [List.length_map, List.length_append, List.length_drop, List.length_set, markList_length]; omega) ?_
    | (show False; omega)
  all_goals
    conv => whnf
    refine OutA_plain rfl rfl ?_
    first | rfl | (exfalso; omega) | (exfalso; simp at *; omega)
theorem zero_ok2 : (⟨0, [], []⟩ : WatchT).ok := ⟨trivial, ⟨Nat.zero_le _, fun _ h => by cases h⟩, ⟨Nat.zero_le _, fun _ h => by cases h⟩⟩
theorem c_laws_FnExactNewWatch (a : List ClockT) (hok : okL ClockT.ok a) : PC Try.prog false 13 [.sl (a.map ClockT.cells)] (.bool true) [] := by
  by_cases hw : a.length ≤ 1048576
  · refine law_NewWatch a (resW (okWatch (newW a)) (newW a)) (okWatch (newW a)) hok ?_ ?_ ?_ (c_spec_NewWatch a hok) (c_impl_NewWatch a hok)
    · cases okWatch (newW a) with
      | true => exact new_okk hok
      | false => exact zero_ok2
    · cases okWatch (newW a) with
      | true => exact hw
      | false => exact Nat.zero_le _
    · cases okWatch (newW a) with
      | true => exact Nat.zero_le _
      | false => exact Nat.zero_le _
  · exact law_NewWatch a ⟨0, [], []⟩ false hok zero_ok2 (Nat.zero_le _) (Nat.zero_le _) (fun h => absurd h hw) (fun h => absurd h hw)
end Go.Proofs.Ytpknpdgjgffhiaa
