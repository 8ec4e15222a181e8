/-
  What the functions that grant leases give.
  No condition.
-/
import Derived.Test.YtgeoghlgpnedfaaWatch4
namespace Go.Proofs.Ytgeoghlgpnedfaa
open Go.Ab
set_option linter.unusedSimpArgs false
set_option maxRecDepth 20000
set_option maxHeartbeats 2000000
set_option linter.unusedVariables false

theorem one_len3 {L : List (List AV)} {e : List AV} {n : Nat} (hL : L = [e]) (he : e.length = n) : ∀ z ∈ L, z.length = n := by
  subst hL
  intro z hz
  simp at hz
  rw [hz]
  exact he
theorem app_bound3 {L M : List (List AV)} {b : Nat} (hM : M.length = 1) (hL : L.length ≤ 1048576) (hb : b ≤ 64) : L.length + M.length ≤ 70368744177664 ∧ (L.length + M.length) * b ≤ 140737488355328 := by
  rw [hM]
  refine ⟨by omega, ?_⟩
  have : (L.length + 1) * b ≤ (L.length + 1) * 64 := Nat.mul_le_mul_left _ hb
  omega
theorem app_map {α : Type} {f : α → List AV} {xs : List α} {x : α} {L : List (List AV)} (hL : L = [f x]) : xs.map f ++ L = (xs ++ [x]).map f := by rw [hL, List.map_append]; rfl
def inWay (who low : Int) (l : LeaseT) : Bool := !decide (l.Who = who) && decide (low ≤ l.Until)
theorem waitFrom_pos {who low : Int} : ∀ (ls : List LeaseT) (m : Int), 0 ≤ m → (waitFrom who low m ls > 0 ↔ m > 0 ∨ ls.any (inWay who low) = true)
  | [], m, _ => by simp [waitFrom]
  | l :: ls, m, hm => by
    simp only [waitFrom, List.any_cons, Bool.or_eq_true]
    by_cases h : l.Who = who
    · rw [if_pos h, waitFrom_pos ls m hm]
      have : inWay who low l = false := by simp [inWay, h]
      simp [this]
    · rw [if_neg h, waitFrom_pos ls _ (by unfold mx; split <;> omega)]
      have e : inWay who low l = decide (low ≤ l.Until) := by simp [inWay, h]
      rw [e, decide_eq_true_eq]
      constructor
      · rintro (h1 | h1)
        · unfold mx at h1
          split at h1
          · right; left; omega
          · left; exact h1
        · right; right; exact h1
      · rintro (h1 | h1 | h1)
        · left; unfold mx; split <;> omega
        · left; unfold mx; split <;> omega
        · right; exact h1
def free (w : WatchT) (who : Int) : Bool := !w.Given.any (inWay who (spanAt w who).Low)
theorem wait_free {w : WatchT} {who : Int} : decide (waitN w who > 0) = !free w who := by
  unfold free waitN
  rw [Bool.not_not]
  cases h : w.Given.any (inWay who (spanAt w who).Low) with
  | true => exact decide_eq_true ((waitFrom_pos _ _ (by omega)).2 (.inr h))
  | false =>
    refine decide_eq_false fun hc => ?_
    rcases (waitFrom_pos _ _ (by omega)).1 hc with h1 | h1
    · omega
    · rw [h] at h1; cases h1
theorem iw1 {who low : Int} {l : LeaseT} (h : ¬ l.Who = who) (h2 : l.Until ≥ low) : inWay who low l = true := by simp only [inWay, decide_eq_false h, decide_eq_true (show low ≤ l.Until from h2)]; rfl
theorem iw2 {who low : Int} {l : LeaseT} (h : l.Who = who) : inWay who low l = false := by simp only [inWay, decide_eq_true h]; rfl
theorem iw3 {who low : Int} {l : LeaseT} (h : ¬ l.Until ≥ low) : inWay who low l = false := by simp only [inWay, decide_eq_false (show ¬ low ≤ l.Until from h), Bool.and_false]
theorem c_spec_l10Free (w : WatchT) (who low : Int) (hok : w.ok) : PC Try.prog false 216 [.agg w.cells, .int .i64 who, .int .i64 low] (.bool (!w.Given.any (inWay who low))) [] := by
  have hl := hok.2.2.1
  refine pc_at Try.func216 rfl (by kernel_rfl) 33 [.tmp 6] rfl rfl ?_
  repeat' (conv => whnf); first
    | refine nameB_true ?_
    | refine nameB_false ?_
    | refine nameB_yes (by assumption) ?_
    | refine nameB_no (by assumption) ?_
    | refine nameB_dyes (by assumption) ?_
    | refine nameB_dno (by assumption) ?_
    | (refine nameB_dec (fun h => ?_) (fun h => ?_) <;> try simp only [List.length_map, List.length_take, List.length_append, List.length_drop, List.length_set, markList_length, midL_len, mkL_length, Int.toNat_natCast, fact_byte] at h)
    | (refine nameB_cases (fun h => ?_) (fun h => ?_) <;> try simp only [bne_iff_ne, ne_eq, bne_eq_false_iff_eq, beq_iff_eq, beq_eq_false_iff_ne, Bool.not_eq_true', Bool.not_eq_false', Bool.or_eq_true, Bool.or_eq_false_iff, List.length_map, List.length_take, List.length_append, List.length_drop, List.length_set, markList_length, midL_len, mkL_length, Int.toNat_natCast, fact_byte] at h)
    | refine splitB_true ?_
    | refine splitB_false ?_
    | (refine splitB_intro (fun h => ?_) (fun h => ?_) <;> subst h)
    | refine ⟨⟨by kernel_rfl, by kernel_rfl, by kernel_rfl⟩, ?_⟩
    | (show Go.Ab.Loop _ _ _; (refine Loop_at [1, 2, 3] [0] (Nat) (fun k => (w.Given.drop k).any (inWay who low) = w.Given.any (inWay who low) ∧ k ≤ w.Given.length) (fun k => [(7, .int .i64 (k : Nat))]) (fun k => []) (fun k => w.Given.length - k) 0 ⟨by first | (simp_all <;> fail) | rfl | fail, trivial⟩ trivial (by (try dsimp only); first | (exact ⟨rfl, by omega⟩) | fail) ?_; (conv => whnf); refine side_and (side_of (by first | exact fun k => rfl | exact fun k => by simp [headOk, closedE, closedO, closedL, AV.closed, hcap.closed])) ?_; rintro k hT; try dsimp only at hT))
    | (show Go.Ab.Again _ _ _ _ _ _ _ _ _ _ _; refine Again_of (k + 1) ⟨by first | rfl | exact i64_next (by omega) | (simp_all <;> fail) | fail, trivial⟩ trivial (by first | (and_intros <;> first | rfl | trivial) | fail) (by first | (and_intros <;> first | rfl | trivial) | fail) rfl rfl rfl (by (try dsimp only); first | (first | exact ⟨any_go hT.1 hx (iw2 (by assumption)), by omega⟩ | exact ⟨any_go hT.1 hx (iw3 (by assumption)), by omega⟩) | fail) (show _ < _ by (try dsimp only); omega))
    | refine ix_map_at hx ?_
    | refine ix_map_at hy ?_
    | refine sl_pre (by omega) (fun _ => rfl) ?_
    | refine sl_suf (by omega) (fun _ => rfl) ?_
    | (refine ix_map2 hx (by omega) (by (try simp only [List.length_take]); omega) (fun y hy => ?_); try simp only [Int.toNat_natCast] at hy)
    | (refine ix_map (by omega) (by (try simp only [List.length_take]); omega) (fun x hx => ?_); try simp only [Int.toNat_natCast] at hx)
    | refine side_and (side_of (by first | (and_intros <;> first | exact Nat.le_of_ble_eq_true rfl | rfl | omega | (simp only [List.length_map, List.length_append, List.length_replicate, List.length_take, List.length_cons, List.length_nil, List.length_drop, List.length_set, markList_length, midL_len, mkL_length]; omega) | exact bytes_ok (Nat.le_of_ble_eq_true rfl) (by omega) (by simp only [List.length_map, List.length_append, List.length_replicate, List.length_take, List.length_cons, List.length_nil, List.length_drop, List.length_set, markList_length, midL_len, mkL_length]; omega) | exact bytes_okN (Nat.le_of_ble_eq_true rfl) (by simp only [List.length_map, List.length_append, List.length_replicate, List.length_take, List.length_cons, List.length_nil, List.length_drop, List.length_set, markList_length, midL_len, mkL_length]; omega)) | fail)) ?_
    | refine nilB_intro (fun h => ?_) ?_
    | refine side_and (side_of (show Go.Ab.structOk _ _ = true by kernel_rfl)) ?_
    | refine side_and (side_of (map_len (fun _ => rfl))) ?_
    | refine side_and (side_of (map_one (fun _ => rfl) _)) ?_
    | refine side_and ?_ ?_
    | refine LoadK_of rfl rfl ?_
    | refine LoadD_cel rfl rfl rfl rfl ?_
    | refine LoadD_of rfl ?_
    | refine StoreD_of rfl rfl rfl ?_
    | refine AppD_of rfl (by and_intros <;> first | rfl | decide) (by simp only [List.length_map, List.length_append, List.length_take, List.length_cons, List.length_nil]; first | (refine ⟨by omega, ?_⟩; refine Nat.le_trans (Nat.mul_le_mul_left _ (show _ ≤ 512 by decide)) ?_; omega) | fail) ?_
    | refine AppN_of rfl rfl (by and_intros <;> rfl) (by simp only [List.length_map, List.length_append, List.length_take, List.length_cons, List.length_nil]; first | (refine ⟨by omega, ?_⟩; refine Nat.le_trans (Nat.mul_le_mul_left _ (show _ ≤ 512 by decide)) ?_; omega) | fail) ?_
    | (show False; omega)
  all_goals
    conv => whnf
    refine OutA_plain rfl rfl ?_
    first
    | (rw [any_hit hT.1 hx (iw1 (by assumption) (by assumption))]; rfl)
    | (rw [any_end hT.1 (by assumption)]; rfl)
def askW (w : WatchT) (who long : Int) : WatchT := { w with Given := w.Given ++ [⟨who, (spanAt w who).Low, IntKind.i64.wrap ((spanAt w who).High + long)⟩] }
def okAsk (w : WatchT) (who long : Int) : Bool := okWatch w && okWho w.Clocks.length who && inB 1 long 100 && free w who && okWatch (askW w who long)
theorem ask_okk {w : WatchT} {who long : Int} (hok : w.ok) (hl : w.w ≤ 1048576) : (askW w who long).ok := by
  have hw2 : w.w = w.Clocks.length + w.Given.length := rfl
  refine ⟨hok.1, hok.2.1, ⟨?_, fun l hl => ⟨trivial, trivial, trivial⟩⟩⟩
  show (w.Given ++ [_]).length ≤ _
  rw [List.length_append]
  simp only [List.length_cons, List.length_nil]
  omega
theorem c_impl_AskLease (w : WatchT) (who long : Int) (hok : w.ok) (hl : w.w ≤ 1048576) : PC Try.prog false 141 [.agg w.cells, .int .i64 who, .int .i64 long] (.tup [.agg [.int .i64 (resW (okAsk w who long) (askW w who long)).True, .own 0, .own 1], .bool (okAsk w who long)]) (watchOs (resW (okAsk w who long) (askW w who long)).Clocks (resW (okAsk w who long) (askW w who long)).Given) := by
  have hw2 : w.w = w.Clocks.length + w.Given.length := rfl
  refine pc_at Try.func141 rfl (by kernel_rfl) 53 [.cell 6 30, .tmp 7] rfl rfl ?_
  repeat' (conv => whnf); first
    | (refine nameB_cases (b := !free w who) (fun h => ?_) (fun h => ?_) <;> simp only [Bool.not_eq_true', Bool.not_eq_false'] at h)
    | (conv => arg 1; rw [wait_free])
    | refine side_and (side_of (one_len3 rfl rfl)) ?_
    | refine side_and (side_of (app_bound3 (L := w.Given.map LeaseT.cells) rfl (by rw [List.length_map]; omega) (Nat.le_of_ble_eq_true rfl))) ?_
    | refine side_and (side_of (by first | (and_intros <;> first | exact Nat.le_of_ble_eq_true rfl | rfl | (intro e; exact absurd (AV.own.inj e) (by decide))) | fail)) ?_
    | refine nameB_true ?_
    | refine nameB_false ?_
    | refine nameB_yes (by assumption) ?_
    | refine nameB_no (by assumption) ?_
    | refine nameB_dyes (by assumption) ?_
    | refine nameB_dno (by assumption) ?_
    | (refine nameB_dec (fun h => ?_) (fun h => ?_) <;> try simp only [List.length_map, List.length_take, List.length_append, List.length_drop, List.length_set, markList_length, midL_len, mkL_length, Int.toNat_natCast, fact_byte] at h)
    | (refine nameB_cases (fun h => ?_) (fun h => ?_) <;> try simp only [bne_iff_ne, ne_eq, bne_eq_false_iff_eq, beq_iff_eq, beq_eq_false_iff_ne, Bool.not_eq_true', Bool.not_eq_false', Bool.or_eq_true, Bool.or_eq_false_iff, List.length_map, List.length_take, List.length_append, List.length_drop, List.length_set, markList_length, midL_len, mkL_length, Int.toNat_natCast, fact_byte] at h)
    | refine splitB_true ?_
    | refine splitB_false ?_
    | (refine splitB_intro (fun h => ?_) (fun h => ?_) <;> subst h)
    | refine ⟨⟨by kernel_rfl, by kernel_rfl, by kernel_rfl⟩, ?_⟩
    | (show Go.Ab.CallA _ _ _ _ _ _ _; first
        | refine Call0 (c_impl_GoodWatch w hok) rfl rfl ?_
        | refine Call0 (c_impl_Watch_isNode w who) rfl rfl ?_
        | refine Call0 (c_impl_within ..) rfl rfl ?_
        | refine Call0 (c_impl_Watch_wait w who hok (by assumption) (okWho_lt (by assumption) (by omega))) rfl rfl ?_
        | refine CallF (c_impl_copyWatch w hl) rfl rfl rfl (Nat.le_of_ble_eq_true rfl) ?_
        | refine Call0 (c_impl_Watch_span w who (by assumption) (okWho_lt (by assumption) (by omega))) rfl rfl ?_
        | refine CallI (nid := 4096 * 6 + 16 * 1) (f := 64) Try.func64 rfl (by kernel_rfl) 1000000 [6] 9 [.cell 2 30, .tmp 3] rfl rfl ?_
        | refine Call0 (c_impl_GoodWatch (askW w who long) (ask_okk hok hl)) (congrArg (fun l => [AV.agg [AV.int .i64 w.True, .sl (w.Clocks.map ClockT.cells), .sl l]]) (app_map rfl)) rfl ?_)
    | (show Go.Ab.RetI _ _ _ _ _ _ _ _; refine RetI_of rfl ?_)
    | refine ix_map_at hx ?_
    | refine ix_map_at hy ?_
    | refine sl_pre (by omega) (fun _ => rfl) ?_
    | refine sl_suf (by omega) (fun _ => rfl) ?_
    | (refine ix_map2 hx (by omega) (by (try simp only [List.length_take]); omega) (fun y hy => ?_); try simp only [Int.toNat_natCast] at hy)
    | (refine ix_map (by omega) (by (try simp only [List.length_take]); omega) (fun x hx => ?_); try simp only [Int.toNat_natCast] at hx)
    | refine side_and (side_of (by first | (and_intros <;> first | exact Nat.le_of_ble_eq_true rfl | rfl | omega | (simp only [List.length_map, List.length_append, List.length_replicate, List.length_take, List.length_cons, List.length_nil, List.length_drop, List.length_set, markList_length, midL_len, mkL_length]; omega) | exact bytes_ok (Nat.le_of_ble_eq_true rfl) (by omega) (by simp only [List.length_map, List.length_append, List.length_replicate, List.length_take, List.length_cons, List.length_nil, List.length_drop, List.length_set, markList_length, midL_len, mkL_length]; omega) | exact bytes_okN (Nat.le_of_ble_eq_true rfl) (by simp only [List.length_map, List.length_append, List.length_replicate, List.length_take, List.length_cons, List.length_nil, List.length_drop, List.length_set, markList_length, midL_len, mkL_length]; omega)) | fail)) ?_
    | refine nilB_intro (fun h => ?_) ?_
    | refine side_and (side_of (show Go.Ab.structOk _ _ = true by kernel_rfl)) ?_
    | refine side_and (side_of (map_len (fun _ => rfl))) ?_
    | refine side_and (side_of (map_one (fun _ => rfl) _)) ?_
    | refine side_and ?_ ?_
    | refine LoadK_of rfl rfl ?_
    | refine LoadD_cel rfl rfl rfl rfl ?_
    | refine LoadD_of rfl ?_
    | refine StoreD_of rfl rfl rfl ?_
    | refine AppD_of rfl (by and_intros <;> first | rfl | decide) (by simp only [List.length_map, List.length_append, List.length_take, List.length_cons, List.length_nil]; first | (refine ⟨by omega, ?_⟩; refine Nat.le_trans (Nat.mul_le_mul_left _ (show _ ≤ 512 by decide)) ?_; omega) | fail) ?_
    | refine AppN_of rfl rfl (by and_intros <;> rfl) (by simp only [List.length_map, List.length_append, List.length_take, List.length_cons, List.length_nil]; first | (refine ⟨by omega, ?_⟩; refine Nat.le_trans (Nat.mul_le_mul_left _ (show _ ≤ 512 by decide)) ?_; omega) | fail) ?_
    | (show False; omega)
  all_goals
    conv => whnf
    first
    | (rw [show (okAsk w who long) = true from (by first | (simp only [okAsk, *, Bool.and_true, Bool.and_false, Bool.true_and, Bool.false_and, Bool.not_true, Bool.not_false] <;> fail) | fail)]; exact OutA_ids rfl rfl rfl ⟨⟨_, _, _, rfl, rfl⟩, ⟨_, _, _, rfl, congrArg (AObj.mk false _ _) (app_map rfl).symm⟩, trivial⟩ rfl (.inr watch_flat))
    | (rw [show (okAsk w who long) = false from (by first | (simp only [okAsk, *, Bool.and_true, Bool.and_false, Bool.true_and, Bool.false_and, Bool.not_true, Bool.not_false] <;> fail) | fail)]; exact OutA_nilB 16 1 27 1 1 rfl rfl rfl (by decide) (OutA_nilB 16 2 112 3 2 rfl rfl rfl (by decide) (OutA_ids rfl rfl rfl ⟨⟨_, _, _, rfl, rfl⟩, ⟨_, _, _, rfl, rfl⟩, trivial⟩ rfl (.inr watch_flat))))
theorem c_spec_AskLease (w : WatchT) (who long : Int) (hok : w.ok) (hl : w.w ≤ 1048576) : PC Try.prog false 146 [.agg w.cells, .int .i64 who, .int .i64 long] (.tup [.agg [.int .i64 (resW (okAsk w who long) (askW w who long)).True, .own 0, .own 1], .bool (okAsk w who long)]) (watchOs (resW (okAsk w who long) (askW w who long)).Clocks (resW (okAsk w who long) (askW w who long)).Given) := by
  have hw2 : w.w = w.Clocks.length + w.Given.length := rfl
  have key : (okWatch w && okWho w.Clocks.length who) = true → okWatch w = true ∧ (0 ≤ who ∧ who < w.Clocks.length) := fun h => by
    rw [Bool.and_eq_true] at h
    exact ⟨h.1, okWho_lt h.2 (by omega)⟩
  refine pc_at Try.func146 rfl (by kernel_rfl) 52 [.cell 6 30, .tmp 7] rfl rfl ?_
  repeat' (conv => whnf); first
    | (refine nameB_cases (b := free w who) (fun h => ?_) (fun h => ?_))
    | refine side_and (side_of (one_len3 rfl rfl)) ?_
    | refine side_and (side_of (app_bound3 (L := w.Given.map LeaseT.cells) rfl (by rw [List.length_map]; omega) (Nat.le_of_ble_eq_true rfl))) ?_
    | refine side_and (side_of (by first | (and_intros <;> first | exact Nat.le_of_ble_eq_true rfl | rfl | (intro e; exact absurd (AV.own.inj e) (by decide))) | fail)) ?_
    | refine nameB_true ?_
    | refine nameB_false ?_
    | refine nameB_yes (by assumption) ?_
    | refine nameB_no (by assumption) ?_
    | refine nameB_dyes (by assumption) ?_
    | refine nameB_dno (by assumption) ?_
    | (refine nameB_dec (fun h => ?_) (fun h => ?_) <;> try simp only [List.length_map, List.length_take, List.length_append, List.length_drop, List.length_set, markList_length, midL_len, mkL_length, Int.toNat_natCast, fact_byte] at h)
    | (refine nameB_cases (fun h => ?_) (fun h => ?_) <;> try simp only [bne_iff_ne, ne_eq, bne_eq_false_iff_eq, beq_iff_eq, beq_eq_false_iff_ne, Bool.not_eq_true', Bool.not_eq_false', Bool.or_eq_true, Bool.or_eq_false_iff, List.length_map, List.length_take, List.length_append, List.length_drop, List.length_set, markList_length, midL_len, mkL_length, Int.toNat_natCast, fact_byte] at h)
    | refine splitB_true ?_
    | refine splitB_false ?_
    | (refine splitB_intro (fun h => ?_) (fun h => ?_) <;> subst h)
    | refine ⟨⟨by kernel_rfl, by kernel_rfl, by kernel_rfl⟩, ?_⟩
    | (show Go.Ab.CallA _ _ _ _ _ _ _; first
        | refine Call0 (c_spec_l10Has w who hok) rfl rfl ?_
        | refine Call0 (c_spec_l1In ..) rfl rfl ?_
        | refine Call0 (c_spec_l10Span w who (key (by assumption)).1 (key (by assumption)).2) rfl rfl ?_
        | refine Call0 (c_spec_l10Free w who (spanAt w who).Low hok) rfl rfl ?_
        | refine CallF (c_spec_l10Own w hl) rfl rfl rfl (Nat.le_of_ble_eq_true rfl) ?_
        | refine CallI (nid := 4096 * 6 + 16 * 1) (f := 66) Try.func66 rfl (by kernel_rfl) 1000000 [6] 9 [.cell 2 30, .tmp 3] rfl rfl ?_
        | refine Call0 (c_spec_l10Good (askW w who long) (ask_okk hok hl)) (congrArg (fun l => [AV.agg [AV.int .i64 w.True, .sl (w.Clocks.map ClockT.cells), .sl l]]) (app_map rfl)) rfl ?_)
    | (show Go.Ab.CallD _ _ _ _ _ _ _; first
        | refine CallD0 (c_spec_l10Has w who hok) rfl rfl rfl ?_
        | refine CallD0 (c_spec_l1In ..) rfl rfl rfl ?_
        | refine CallD0 (c_spec_l10Span w who (key (by assumption)).1 (key (by assumption)).2) rfl rfl rfl ?_
        | refine CallD0 (c_spec_l10Free w who (spanAt w who).Low hok) rfl rfl rfl ?_
        | refine CallDF (c_spec_l10Own w hl) rfl rfl ⟨rfl, rfl⟩ ?_
        | refine CallD0 (c_spec_l10Good (askW w who long) (ask_okk hok hl)) (congrArg (fun l => [AV.agg [AV.int .i64 w.True, .sl (w.Clocks.map ClockT.cells), .sl l]]) (app_map rfl)) rfl ?_)
    | (show Go.Ab.RetI _ _ _ _ _ _ _ _; refine RetI_of rfl ?_)
    | refine ix_map_at hx ?_
    | refine ix_map_at hy ?_
    | refine sl_pre (by omega) (fun _ => rfl) ?_
    | refine sl_suf (by omega) (fun _ => rfl) ?_
    | (refine ix_map2 hx (by omega) (by (try simp only [List.length_take]); omega) (fun y hy => ?_); try simp only [Int.toNat_natCast] at hy)
    | (refine ix_map (by omega) (by (try simp only [List.length_take]); omega) (fun x hx => ?_); try simp only [Int.toNat_natCast] at hx)
    | refine side_and (side_of (by first | (and_intros <;> first | exact Nat.le_of_ble_eq_true rfl | rfl | omega | (simp only [List.length_map, List.length_append, List.length_replicate, List.length_take, List.length_cons, List.length_nil, List.length_drop, List.length_set, markList_length, midL_len, mkL_length]; omega) | exact bytes_ok (Nat.le_of_ble_eq_true rfl) (by omega) (by simp only [List.length_map, List.length_append, List.length_replicate, List.length_take, List.length_cons, List.length_nil, List.length_drop, List.length_set, markList_length, midL_len, mkL_length]; omega) | exact bytes_okN (Nat.le_of_ble_eq_true rfl) (by simp only [List.length_map, List.length_append, List.length_replicate, List.length_take, List.length_cons, List.length_nil, List.length_drop, List.length_set, markList_length, midL_len, mkL_length]; omega)) | fail)) ?_
    | refine nilB_intro (fun h => ?_) ?_
    | refine side_and (side_of (show Go.Ab.structOk _ _ = true by kernel_rfl)) ?_
    | refine side_and (side_of (map_len (fun _ => rfl))) ?_
    | refine side_and (side_of (map_one (fun _ => rfl) _)) ?_
    | refine side_and ?_ ?_
    | refine LoadK_of rfl rfl ?_
    | refine LoadD_cel rfl rfl rfl rfl ?_
    | refine LoadD_of rfl ?_
    | refine StoreD_of rfl rfl rfl ?_
    | refine AppD_of rfl (by and_intros <;> first | rfl | decide) (by simp only [List.length_map, List.length_append, List.length_take, List.length_cons, List.length_nil]; first | (refine ⟨by omega, ?_⟩; refine Nat.le_trans (Nat.mul_le_mul_left _ (show _ ≤ 512 by decide)) ?_; omega) | fail) ?_
    | refine AppN_of rfl rfl (by and_intros <;> rfl) (by simp only [List.length_map, List.length_append, List.length_take, List.length_cons, List.length_nil]; first | (refine ⟨by omega, ?_⟩; refine Nat.le_trans (Nat.mul_le_mul_left _ (show _ ≤ 512 by decide)) ?_; omega) | fail) ?_
    | (show False; omega)
  all_goals
    conv => whnf
    first
    | (rw [show (okAsk w who long) = true from (by first | (simp only [okAsk, *, Bool.and_true, Bool.and_false, Bool.true_and, Bool.false_and, Bool.not_true, Bool.not_false] <;> fail) | fail)]; exact OutA_ids rfl rfl rfl ⟨⟨_, _, _, rfl, rfl⟩, ⟨_, _, _, rfl, congrArg (AObj.mk false _ _) (app_map rfl).symm⟩, trivial⟩ rfl (.inr watch_flat))
    | (rw [show (okAsk w who long) = false from (by first | (simp only [okAsk, *, Bool.and_true, Bool.and_false, Bool.true_and, Bool.false_and, Bool.not_true, Bool.not_false] <;> fail) | fail)]; exact OutA_nilB 16 1 27 1 1 rfl rfl rfl (by decide) (OutA_nilB 16 2 112 3 2 rfl rfl rfl (by decide) (OutA_ids rfl rfl rfl ⟨⟨_, _, _, rfl, rfl⟩, ⟨_, _, _, rfl, rfl⟩, trivial⟩ rfl (.inr watch_flat))))
end Go.Proofs.Ytgeoghlgpnedfaa
