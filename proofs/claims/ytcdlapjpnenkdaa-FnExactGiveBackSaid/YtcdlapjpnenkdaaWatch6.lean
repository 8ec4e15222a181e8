/-
  What the functions that grant leases give.
  No condition.
-/
import Derived.Test.YtcdlapjpnenkdaaWatch4
namespace Go.Proofs.Ytcdlapjpnenkdaa
open Go.Ab
set_option linter.unusedSimpArgs false
set_option maxRecDepth 20000
set_option maxHeartbeats 2000000
set_option linter.unusedVariables false

theorem c_laws_heldWatchB (t : Int) (n m : Nat) (hn : n ≤ 2000000) (hm : m ≤ 2000000) : PC Try.prog false 21 [.agg [.int .i64 t, .sl ((markList 1 ClockT.mark 1 n).map ClockT.cells), .sl ((markList 3 LeaseT.mark (1 + 1 * (n : Int)) m).map LeaseT.cells)], .int .i64 1] (.int .i64 (1 + 1 * (n : Int) + 3 * (m : Int))) [] := by
  refine pc_at Try.func21 rfl (by kernel_rfl) 18 [.tmp 4] rfl rfl ?_
  repeat' (conv => whnf); first
    | refine nameB_true ?_
    | refine nameB_false ?_
    | refine nameB_yes (by assumption) ?_
    | refine nameB_no (by assumption) ?_
    | refine nameB_dyes (by assumption) ?_
    | refine nameB_dno (by assumption) ?_
    | (refine nameB_dec (fun h => ?_) (fun h => ?_) <;> try simp only [List.length_map, List.length_take, List.length_append, List.length_drop, markList_length, Int.toNat_natCast, fact_byte] at h)
    | (refine nameB_cases (fun h => ?_) (fun h => ?_) <;> try simp only [bne_iff_ne, ne_eq, bne_eq_false_iff_eq, beq_iff_eq, beq_eq_false_iff_ne, Bool.not_eq_true', Bool.not_eq_false', Bool.or_eq_true, Bool.or_eq_false_iff, List.length_map, List.length_take, List.length_append, List.length_drop, markList_length, Int.toNat_natCast, fact_byte] at h)
    | refine splitB_true ?_
    | refine splitB_false ?_
    | (refine splitB_intro (fun h => ?_) (fun h => ?_) <;> subst h)
    | refine ⟨⟨by kernel_rfl, by kernel_rfl, by kernel_rfl⟩, ?_⟩
    | (show Go.Ab.CallA _ _ _ _ _ _ _; first
        | refine Call0 (c_laws_heldClockS 1 n (by omega) (by omega)) rfl rfl ?_
        | refine Call0 (c_laws_heldLeaseS (1 + 1 * (n : Int)) m (by omega) (by omega)) rfl rfl ?_)
    | refine ix_map_at hx ?_
    | refine ix_map_at hy ?_
    | refine sl_pre (by omega) (fun _ => rfl) ?_
    | refine sl_suf (by omega) (fun _ => rfl) ?_
    | (refine ix_map2 hx (by omega) (by (try simp only [List.length_take]); omega) (fun y hy => ?_); try simp only [Int.toNat_natCast] at hy)
    | (refine ix_map (by omega) (by (try simp only [List.length_take]); omega) (fun x hx => ?_); try simp only [Int.toNat_natCast] at hx)
    | refine side_and (side_of (by first | (and_intros <;> first | exact Nat.le_of_ble_eq_true rfl | rfl | omega | (simp only [List.length_map, List.length_append, List.length_replicate, List.length_take, List.length_cons, List.length_nil, List.length_drop, List.length_set, markList_length]; omega) | exact bytes_ok (Nat.le_of_ble_eq_true rfl) (by omega) (by simp only [List.length_map, List.length_append, List.length_replicate, List.length_take, List.length_cons, List.length_nil, List.length_drop, List.length_set, markList_length]; omega) | exact bytes_okN (Nat.le_of_ble_eq_true rfl) (by simp only [List.length_map, List.length_append, List.length_replicate, List.length_take, List.length_cons, List.length_nil, List.length_drop, List.length_set, markList_length]; omega)) | fail)) ?_
    | refine nilB_intro (fun h => ?_) ?_
    | refine side_and (side_of (map_len (fun _ => rfl))) ?_
    | refine side_and (side_of (map_one (fun _ => rfl) _)) ?_
    | refine side_and ?_ ?_
    | refine LoadK_of rfl rfl ?_
    | (show False; omega)
  all_goals
    conv => whnf
    refine OutA_plain rfl rfl ?_
    first | rfl | (exfalso; omega)
theorem one_len3 {L : List (List AV)} {e : List AV} {n : Nat} (hL : L = [e]) (he : e.length = n) : ∀ z ∈ L, z.length = n := by
  subst hL
  intro z hz
  simp at hz
  rw [hz]
  exact he
theorem app_bound3 {L M : List (List AV)} {b : Nat} (hM : M.length = 1) (hL : L.length ≤ 1048576) (hb : b ≤ 64) : L.length + M.length ≤ 70368744177664 ∧ (L.length + M.length) * b ≤ 140737488355328 := by
  rw [hM]
  refine ⟨by omega, ?_⟩
  have : (L.length + 1) * b ≤ (L.length + 1) * 64 := Nat.mul_le_mul_left _ hb
  omega
theorem app_map {α : Type} {f : α → List AV} {xs : List α} {x : α} {L : List (List AV)} (hL : L = [f x]) : xs.map f ++ L = (xs ++ [x]).map f := by rw [hL, List.map_append]; rfl
def inWay (who low : Int) (l : LeaseT) : Bool := !decide (l.Who = who) && decide (low ≤ l.Until)
theorem waitFrom_pos {who low : Int} : ∀ (ls : List LeaseT) (m : Int), 0 ≤ m → (waitFrom who low m ls > 0 ↔ m > 0 ∨ ls.any (inWay who low) = true)
  | [], m, _ => by simp [waitFrom]
  | l :: ls, m, hm => by
    simp only [waitFrom, List.any_cons, Bool.or_eq_true]
    by_cases h : l.Who = who
    · rw [if_pos h, waitFrom_pos ls m hm]
      have : inWay who low l = false := by simp [inWay, h]
      simp [this]
    · rw [if_neg h, waitFrom_pos ls _ (by unfold mx; split <;> omega)]
      have e : inWay who low l = decide (low ≤ l.Until) := by simp [inWay, h]
      rw [e, decide_eq_true_eq]
      constructor
      · rintro (h1 | h1)
        · unfold mx at h1
          split at h1
          · right; left; omega
          · left; exact h1
        · right; right; exact h1
      · rintro (h1 | h1 | h1)
        · left; unfold mx; split <;> omega
        · left; unfold mx; split <;> omega
        · right; exact h1
def free (w : WatchT) (who : Int) : Bool := !w.Given.any (inWay who (spanAt w who).Low)
theorem wait_free {w : WatchT} {who : Int} : decide (waitN w who > 0) = !free w who := by
  unfold free waitN
  rw [Bool.not_not]
  cases h : w.Given.any (inWay who (spanAt w who).Low) with
  | true => exact decide_eq_true ((waitFrom_pos _ _ (by omega)).2 (.inr h))
  | false =>
    refine decide_eq_false fun hc => ?_
    rcases (waitFrom_pos _ _ (by omega)).1 hc with h1 | h1
    · omega
    · rw [h] at h1; cases h1
theorem iw1 {who low : Int} {l : LeaseT} (h : ¬ l.Who = who) (h2 : l.Until ≥ low) : inWay who low l = true := by simp only [inWay, decide_eq_false h, decide_eq_true (show low ≤ l.Until from h2)]; rfl
theorem iw2 {who low : Int} {l : LeaseT} (h : l.Who = who) : inWay who low l = false := by simp only [inWay, decide_eq_true h]; rfl
theorem iw3 {who low : Int} {l : LeaseT} (h : ¬ l.Until ≥ low) : inWay who low l = false := by simp only [inWay, decide_eq_false (show ¬ low ≤ l.Until from h), Bool.and_false]
theorem c_spec_l10Free (w : WatchT) (who low : Int) (hok : w.ok) : PC Try.prog false 65 [.agg w.cells, .int .i64 who, .int .i64 low] (.bool (!w.Given.any (inWay who low))) [] := by
  have hl := hok.2.2.1
  refine pc_at Try.func65 rfl (by kernel_rfl) 33 [.tmp 6] rfl rfl ?_
  repeat' (conv => whnf); first
    | refine nameB_true ?_
    | refine nameB_false ?_
    | refine nameB_yes (by assumption) ?_
    | refine nameB_no (by assumption) ?_
    | refine nameB_dyes (by assumption) ?_
    | refine nameB_dno (by assumption) ?_
    | (refine nameB_dec (fun h => ?_) (fun h => ?_) <;> try simp only [List.length_map, List.length_take, List.length_append, List.length_drop, markList_length, Int.toNat_natCast, fact_byte] at h)
    | (refine nameB_cases (fun h => ?_) (fun h => ?_) <;> try simp only [bne_iff_ne, ne_eq, bne_eq_false_iff_eq, beq_iff_eq, beq_eq_false_iff_ne, Bool.not_eq_true', Bool.not_eq_false', Bool.or_eq_true, Bool.or_eq_false_iff, List.length_map, List.length_take, List.length_append, List.length_drop, markList_length, Int.toNat_natCast, fact_byte] at h)
    | refine splitB_true ?_
    | refine splitB_false ?_
    | (refine splitB_intro (fun h => ?_) (fun h => ?_) <;> subst h)
    | refine ⟨⟨by kernel_rfl, by kernel_rfl, by kernel_rfl⟩, ?_⟩
    | (show Go.Ab.Loop _ _ _; (refine Loop_at [1, 2, 3] [0] (Nat) (fun k => (w.Given.drop k).any (inWay who low) = w.Given.any (inWay who low) ∧ k ≤ w.Given.length) (fun k => [(7, .int .i64 (k : Nat))]) (fun k => []) (fun k => w.Given.length - k) 0 ⟨by first | (simp_all <;> fail) | rfl | fail, trivial⟩ trivial (by (try dsimp only); first | (exact ⟨rfl, by omega⟩) | fail) ?_; (conv => whnf); refine side_and (side_of (by first | exact fun k => rfl | exact fun k => by simp [headOk, closedE, closedO, closedL, AV.closed, hcap.closed])) ?_; rintro k hT; try dsimp only at hT))
    | (show Go.Ab.Again _ _ _ _ _ _ _ _ _ _ _; refine Again_of (k + 1) ⟨by first | rfl | exact i64_next (by omega) | (simp_all <;> fail) | fail, trivial⟩ trivial (by first | (and_intros <;> first | rfl | trivial) | fail) (by first | (and_intros <;> first | rfl | trivial) | fail) rfl rfl rfl (by (try dsimp only); first | (first | exact ⟨any_go hT.1 hx (iw2 (by assumption)), by omega⟩ | exact ⟨any_go hT.1 hx (iw3 (by assumption)), by omega⟩) | fail) (show _ < _ by (try dsimp only); omega))
    | refine ix_map_at hx ?_
    | refine ix_map_at hy ?_
    | refine sl_pre (by omega) (fun _ => rfl) ?_
    | refine sl_suf (by omega) (fun _ => rfl) ?_
    | (refine ix_map2 hx (by omega) (by (try simp only [List.length_take]); omega) (fun y hy => ?_); try simp only [Int.toNat_natCast] at hy)
    | (refine ix_map (by omega) (by (try simp only [List.length_take]); omega) (fun x hx => ?_); try simp only [Int.toNat_natCast] at hx)
    | refine side_and (side_of (by first | (and_intros <;> first | exact Nat.le_of_ble_eq_true rfl | rfl | omega | (simp only [List.length_map, List.length_append, List.length_replicate, List.length_take, List.length_cons, List.length_nil, List.length_drop, List.length_set, markList_length]; omega) | exact bytes_ok (Nat.le_of_ble_eq_true rfl) (by omega) (by simp only [List.length_map, List.length_append, List.length_replicate, List.length_take, List.length_cons, List.length_nil, List.length_drop, List.length_set, markList_length]; omega) | exact bytes_okN (Nat.le_of_ble_eq_true rfl) (by simp only [List.length_map, List.length_append, List.length_replicate, List.length_take, List.length_cons, List.length_nil, List.length_drop, List.length_set, markList_length]; omega)) | fail)) ?_
    | refine nilB_intro (fun h => ?_) ?_
    | refine side_and (side_of (map_len (fun _ => rfl))) ?_
    | refine side_and (side_of (map_one (fun _ => rfl) _)) ?_
    | refine side_and ?_ ?_
    | refine LoadK_of rfl rfl ?_
    | (show False; omega)
  all_goals
    conv => whnf
    refine OutA_plain rfl rfl ?_
    first
    | (rw [any_hit hT.1 hx (iw1 (by assumption) (by assumption))]; rfl)
    | (rw [any_end hT.1 (by assumption)]; rfl)
def askW (w : WatchT) (who long : Int) : WatchT := { w with Given := w.Given ++ [⟨who, (spanAt w who).Low, IntKind.i64.wrap ((spanAt w who).High + long)⟩] }
def okAsk (w : WatchT) (who long : Int) : Bool := okWatch w && okWho w.Clocks.length who && inB 1 long 100 && free w who && okWatch (askW w who long)
theorem ask_okk {w : WatchT} {who long : Int} (hok : w.ok) (hl : w.w ≤ 1048576) : (askW w who long).ok := by
  have hw2 : w.w = w.Clocks.length + w.Given.length := rfl
  refine ⟨hok.1, hok.2.1, ⟨?_, fun l hl => ⟨trivial, trivial, trivial⟩⟩⟩
  show (w.Given ++ [_]).length ≤ _
  rw [List.length_append]
  simp only [List.length_cons, List.length_nil]
  omega
theorem c_impl_AskLease (w : WatchT) (who long : Int) (hok : w.ok) (hl : w.w ≤ 1048576) : PC Try.prog false 32 [.agg w.cells, .int .i64 who, .int .i64 long] (.tup [.agg [.int .i64 (resW (okAsk w who long) (askW w who long)).True, .own 0, .own 1], .bool (okAsk w who long)]) (watchOs (resW (okAsk w who long) (askW w who long)).Clocks (resW (okAsk w who long) (askW w who long)).Given) := by
  have hw2 : w.w = w.Clocks.length + w.Given.length := rfl
  refine pc_at Try.func32 rfl (by kernel_rfl) 53 [.cell 6 33, .tmp 7] rfl rfl ?_
  repeat' (conv => whnf); first
    | (refine nameB_cases (b := !free w who) (fun h => ?_) (fun h => ?_) <;> simp only [Bool.not_eq_true', Bool.not_eq_false'] at h)
    | (conv => arg 1; rw [wait_free])
    | refine side_and (side_of (one_len3 rfl rfl)) ?_
    | refine side_and (side_of (app_bound3 (L := w.Given.map LeaseT.cells) rfl (by rw [List.length_map]; omega) (Nat.le_of_ble_eq_true rfl))) ?_
    | refine side_and (side_of (by first | (and_intros <;> first | exact Nat.le_of_ble_eq_true rfl | rfl | (intro e; exact absurd (AV.own.inj e) (by decide))) | fail)) ?_
    | refine nameB_true ?_
    | refine nameB_false ?_
    | refine nameB_yes (by assumption) ?_
    | refine nameB_no (by assumption) ?_
    | refine nameB_dyes (by assumption) ?_
    | refine nameB_dno (by assumption) ?_
    | (refine nameB_dec (fun h => ?_) (fun h => ?_) <;> try simp only [List.length_map, List.length_take, List.length_append, List.length_drop, markList_length, Int.toNat_natCast, fact_byte] at h)
    | (refine nameB_cases (fun h => ?_) (fun h => ?_) <;> try simp only [bne_iff_ne, ne_eq, bne_eq_false_iff_eq, beq_iff_eq, beq_eq_false_iff_ne, Bool.not_eq_true', Bool.not_eq_false', Bool.or_eq_true, Bool.or_eq_false_iff, List.length_map, List.length_take, List.length_append, List.length_drop, markList_length, Int.toNat_natCast, fact_byte] at h)
    | refine splitB_true ?_
    | refine splitB_false ?_
    | (refine splitB_intro (fun h => ?_) (fun h => ?_) <;> subst h)
    | refine ⟨⟨by kernel_rfl, by kernel_rfl, by kernel_rfl⟩, ?_⟩
    | (show Go.Ab.CallA _ _ _ _ _ _ _; first
        | refine Call0 (c_impl_GoodWatch w hok) rfl rfl ?_
        | refine Call0 (c_impl_Watch_isNode w who) rfl rfl ?_
        | refine Call0 (c_impl_within ..) rfl rfl ?_
        | refine Call0 (c_impl_Watch_wait w who hok (by assumption) (okWho_lt (by assumption) (by omega))) rfl rfl ?_
        | refine CallF (c_impl_copyWatch w hl) rfl rfl rfl (Nat.le_of_ble_eq_true rfl) ?_
        | refine Call0 (c_impl_Watch_span w who (by assumption) (okWho_lt (by assumption) (by omega))) rfl rfl ?_
        | refine CallI (nid := 4096 * 6 + 16 * 1) (f := 57) Try.func57 rfl (by kernel_rfl) 1000000 [6] 9 [.cell 2 33, .tmp 3] rfl rfl ?_
        | refine Call0 (c_impl_GoodWatch (askW w who long) (ask_okk hok hl)) (congrArg (fun l => [AV.agg [AV.int .i64 w.True, .sl (w.Clocks.map ClockT.cells), .sl l]]) (app_map rfl)) rfl ?_)
    | (show Go.Ab.RetI _ _ _ _ _ _ _ _; refine RetI_of rfl ?_)
    | refine ix_map_at hx ?_
    | refine ix_map_at hy ?_
    | refine sl_pre (by omega) (fun _ => rfl) ?_
    | refine sl_suf (by omega) (fun _ => rfl) ?_
    | (refine ix_map2 hx (by omega) (by (try simp only [List.length_take]); omega) (fun y hy => ?_); try simp only [Int.toNat_natCast] at hy)
    | (refine ix_map (by omega) (by (try simp only [List.length_take]); omega) (fun x hx => ?_); try simp only [Int.toNat_natCast] at hx)
    | refine side_and (side_of (by first | (and_intros <;> first | exact Nat.le_of_ble_eq_true rfl | rfl | omega | (simp only [List.length_map, List.length_append, List.length_replicate, List.length_take, List.length_cons, List.length_nil, List.length_drop, List.length_set, markList_length]; omega) | exact bytes_ok (Nat.le_of_ble_eq_true rfl) (by omega) (by simp only [List.length_map, List.length_append, List.length_replicate, List.length_take, List.length_cons, List.length_nil, List.length_drop, List.length_set, markList_length]; omega) | exact bytes_okN (Nat.le_of_ble_eq_true rfl) (by simp only [List.length_map, List.length_append, List.length_replicate, List.length_take, List.length_cons, List.length_nil, List.length_drop, List.length_set, markList_length]; omega)) | fail)) ?_
    | refine nilB_intro (fun h => ?_) ?_
    | refine side_and (side_of (map_len (fun _ => rfl))) ?_
    | refine side_and (side_of (map_one (fun _ => rfl) _)) ?_
    | refine side_and ?_ ?_
    | refine LoadK_of rfl rfl ?_
    | (show False; omega)
  all_goals
    conv => whnf
    first
    | (rw [show (okAsk w who long) = true from (by first | (simp only [okAsk, *, Bool.and_true, Bool.and_false, Bool.true_and, Bool.false_and, Bool.not_true, Bool.not_false] <;> fail) | fail)]; exact OutA_ids rfl rfl rfl ⟨⟨_, _, _, rfl, rfl⟩, ⟨_, _, _, rfl, congrArg (AObj.mk false _ _) (app_map rfl).symm⟩, trivial⟩ rfl (.inr watch_flat))
    | (rw [show (okAsk w who long) = false from (by first | (simp only [okAsk, *, Bool.and_true, Bool.and_false, Bool.true_and, Bool.false_and, Bool.not_true, Bool.not_false] <;> fail) | fail)]; exact OutA_nilB 16 1 49 1 1 rfl rfl rfl (by decide) (OutA_nilB 16 2 85 3 2 rfl rfl rfl (by decide) (OutA_ids rfl rfl rfl ⟨⟨_, _, _, rfl, rfl⟩, ⟨_, _, _, rfl, rfl⟩, trivial⟩ rfl (.inr watch_flat))))
theorem c_spec_AskLease (w : WatchT) (who long : Int) (hok : w.ok) (hl : w.w ≤ 1048576) : PC Try.prog false 31 [.agg w.cells, .int .i64 who, .int .i64 long] (.tup [.agg [.int .i64 (resW (okAsk w who long) (askW w who long)).True, .own 0, .own 1], .bool (okAsk w who long)]) (watchOs (resW (okAsk w who long) (askW w who long)).Clocks (resW (okAsk w who long) (askW w who long)).Given) := by
  have hw2 : w.w = w.Clocks.length + w.Given.length := rfl
  have key : (okWatch w && okWho w.Clocks.length who) = true → okWatch w = true ∧ (0 ≤ who ∧ who < w.Clocks.length) := fun h => by
    rw [Bool.and_eq_true] at h
    exact ⟨h.1, okWho_lt h.2 (by omega)⟩
  refine pc_at Try.func31 rfl (by kernel_rfl) 52 [.cell 6 33, .tmp 7] rfl rfl ?_
  repeat' (conv => whnf); first
    | (refine nameB_cases (b := free w who) (fun h => ?_) (fun h => ?_))
    | refine side_and (side_of (one_len3 rfl rfl)) ?_
    | refine side_and (side_of (app_bound3 (L := w.Given.map LeaseT.cells) rfl (by rw [List.length_map]; omega) (Nat.le_of_ble_eq_true rfl))) ?_
    | refine side_and (side_of (by first | (and_intros <;> first | exact Nat.le_of_ble_eq_true rfl | rfl | (intro e; exact absurd (AV.own.inj e) (by decide))) | fail)) ?_
    | refine nameB_true ?_
    | refine nameB_false ?_
    | refine nameB_yes (by assumption) ?_
    | refine nameB_no (by assumption) ?_
    | refine nameB_dyes (by assumption) ?_
    | refine nameB_dno (by assumption) ?_
    | (refine nameB_dec (fun h => ?_) (fun h => ?_) <;> try simp only [List.length_map, List.length_take, List.length_append, List.length_drop, markList_length, Int.toNat_natCast, fact_byte] at h)
    | (refine nameB_cases (fun h => ?_) (fun h => ?_) <;> try simp only [bne_iff_ne, ne_eq, bne_eq_false_iff_eq, beq_iff_eq, beq_eq_false_iff_ne, Bool.not_eq_true', Bool.not_eq_false', Bool.or_eq_true, Bool.or_eq_false_iff, List.length_map, List.length_take, List.length_append, List.length_drop, markList_length, Int.toNat_natCast, fact_byte] at h)
    | refine splitB_true ?_
    | refine splitB_false ?_
    | (refine splitB_intro (fun h => ?_) (fun h => ?_) <;> subst h)
    | refine ⟨⟨by kernel_rfl, by kernel_rfl, by kernel_rfl⟩, ?_⟩
    | (show Go.Ab.CallA _ _ _ _ _ _ _; first
        | refine Call0 (c_spec_l10Has w who hok) rfl rfl ?_
        | refine Call0 (c_spec_l1In ..) rfl rfl ?_
        | refine Call0 (c_spec_l10Span w who (key (by assumption)).1 (key (by assumption)).2) rfl rfl ?_
        | refine Call0 (c_spec_l10Free w who (spanAt w who).Low hok) rfl rfl ?_
        | refine CallF (c_spec_l10Own w hl) rfl rfl rfl (Nat.le_of_ble_eq_true rfl) ?_
        | refine CallI (nid := 4096 * 6 + 16 * 1) (f := 60) Try.func60 rfl (by kernel_rfl) 1000000 [6] 9 [.cell 2 33, .tmp 3] rfl rfl ?_
        | refine Call0 (c_spec_l10Good (askW w who long) (ask_okk hok hl)) (congrArg (fun l => [AV.agg [AV.int .i64 w.True, .sl (w.Clocks.map ClockT.cells), .sl l]]) (app_map rfl)) rfl ?_)
    | (show Go.Ab.CallD _ _ _ _ _ _ _; first
        | refine CallD0 (c_spec_l10Has w who hok) rfl rfl rfl ?_
        | refine CallD0 (c_spec_l1In ..) rfl rfl rfl ?_
        | refine CallD0 (c_spec_l10Span w who (key (by assumption)).1 (key (by assumption)).2) rfl rfl rfl ?_
        | refine CallD0 (c_spec_l10Free w who (spanAt w who).Low hok) rfl rfl rfl ?_
        | refine CallDF (c_spec_l10Own w hl) rfl rfl ⟨rfl, rfl⟩ ?_
        | refine CallD0 (c_spec_l10Good (askW w who long) (ask_okk hok hl)) (congrArg (fun l => [AV.agg [AV.int .i64 w.True, .sl (w.Clocks.map ClockT.cells), .sl l]]) (app_map rfl)) rfl ?_)
    | (show Go.Ab.RetI _ _ _ _ _ _ _ _; refine RetI_of rfl ?_)
    | refine ix_map_at hx ?_
    | refine ix_map_at hy ?_
    | refine sl_pre (by omega) (fun _ => rfl) ?_
    | refine sl_suf (by omega) (fun _ => rfl) ?_
    | (refine ix_map2 hx (by omega) (by (try simp only [List.length_take]); omega) (fun y hy => ?_); try simp only [Int.toNat_natCast] at hy)
    | (refine ix_map (by omega) (by (try simp only [List.length_take]); omega) (fun x hx => ?_); try simp only [Int.toNat_natCast] at hx)
    | refine side_and (side_of (by first | (and_intros <;> first | exact Nat.le_of_ble_eq_true rfl | rfl | omega | (simp only [List.length_map, List.length_append, List.length_replicate, List.length_take, List.length_cons, List.length_nil, List.length_drop, List.length_set, markList_length]; omega) | exact bytes_ok (Nat.le_of_ble_eq_true rfl) (by omega) (by simp only [List.length_map, List.length_append, List.length_replicate, List.length_take, List.length_cons, List.length_nil, List.length_drop, List.length_set, markList_length]; omega) | exact bytes_okN (Nat.le_of_ble_eq_true rfl) (by simp only [List.length_map, List.length_append, List.length_replicate, List.length_take, List.length_cons, List.length_nil, List.length_drop, List.length_set, markList_length]; omega)) | fail)) ?_
    | refine nilB_intro (fun h => ?_) ?_
    | refine side_and (side_of (map_len (fun _ => rfl))) ?_
    | refine side_and (side_of (map_one (fun _ => rfl) _)) ?_
    | refine side_and ?_ ?_
    | refine LoadK_of rfl rfl ?_
    | (show False; omega)
  all_goals
    conv => whnf
    first
    | (rw [show (okAsk w who long) = true from (by first | (simp only [okAsk, *, Bool.and_true, Bool.and_false, Bool.true_and, Bool.false_and, Bool.not_true, Bool.not_false] <;> fail) | fail)]; exact OutA_ids rfl rfl rfl ⟨⟨_, _, _, rfl, rfl⟩, ⟨_, _, _, rfl, congrArg (AObj.mk false _ _) (app_map rfl).symm⟩, trivial⟩ rfl (.inr watch_flat))
    | (rw [show (okAsk w who long) = false from (by first | (simp only [okAsk, *, Bool.and_true, Bool.and_false, Bool.true_and, Bool.false_and, Bool.not_true, Bool.not_false] <;> fail) | fail)]; exact OutA_nilB 16 1 49 1 1 rfl rfl rfl (by decide) (OutA_nilB 16 2 85 3 2 rfl rfl rfl (by decide) (OutA_ids rfl rfl rfl ⟨⟨_, _, _, rfl, rfl⟩, ⟨_, _, _, rfl, rfl⟩, trivial⟩ rfl (.inr watch_flat))))
theorem law_AskLease (a W : WatchT) (b : Bool) (who long : Int) (hok : a.ok) (hW : W.ok) (hc : W.Clocks.length ≤ 2000000) (hg : W.Given.length ≤ 2000000)
    (hS : a.w ≤ 1048576 → PC Try.prog false 31 [.agg a.cells, .int .i64 who, .int .i64 long] (.tup [.agg [.int .i64 W.True, .own 0, .own 1], .bool b]) (watchOs W.Clocks W.Given))
    (hI : a.w ≤ 1048576 → PC Try.prog false 32 [.agg a.cells, .int .i64 who, .int .i64 long] (.tup [.agg [.int .i64 W.True, .own 0, .own 1], .bool b]) (watchOs W.Clocks W.Given)) :
    PC Try.prog false 7 [.agg a.cells, .int .i64 who, .int .i64 long] (.bool true) [] := by
  have hw2 : a.w = a.Clocks.length + a.Given.length := rfl
  refine pc_at Try.func7 rfl (by kernel_rfl) 106 [.tmp 6] rfl rfl ?_
  repeat' (conv => whnf); first
    | refine nameB_self (b := b) ?_
    | refine nameB_no (b := !(b == b)) (by simp) ?_
    | refine nameB_dno (by omega) ?_
    | refine nameB_true ?_
    | refine nameB_false ?_
    | refine nameB_yes (by assumption) ?_
    | refine nameB_no (by assumption) ?_
    | refine nameB_dyes (by assumption) ?_
    | refine nameB_dno (by assumption) ?_
    | (refine nameB_dec (fun h => ?_) (fun h => ?_) <;> try simp only [List.length_map, List.length_take, List.length_append, List.length_drop, markList_length, Int.toNat_natCast, fact_byte] at h)
    | (refine nameB_cases (fun h => ?_) (fun h => ?_) <;> try simp only [bne_iff_ne, ne_eq, bne_eq_false_iff_eq, beq_iff_eq, beq_eq_false_iff_ne, Bool.not_eq_true', Bool.not_eq_false', Bool.or_eq_true, Bool.or_eq_false_iff, List.length_map, List.length_take, List.length_append, List.length_drop, markList_length, Int.toNat_natCast, fact_byte] at h)
    | refine splitB_true ?_
    | refine splitB_false ?_
    | (refine splitB_intro (fun h => ?_) (fun h => ?_) <;> subst h)
    | refine ⟨⟨by kernel_rfl, by kernel_rfl, by kernel_rfl⟩, ?_⟩
    | (show Go.Ab.Loop _ _ _; first
        | (refine Loop_at [0] [0, 8224, 8225, 8226, 20496, 20497, 20498, 20544, 20545, 20546, 20608, 24593, 24594, 24608, 28720, 28721, 28722, 28784, 32800, 32801, 32802, 40992, 40993, 40994, 41008, 41009, 41010, 53280, 53281, 53282, 57424, 57425, 57426, 69664, 69665, 69666, 77856, 77857, 77858, 98320, 98321, 98322, 98368, 98369, 98370, 98432, 102432, 102433, 102434, 114720, 114721, 114722, 1000000, 2000000] (Nat) (fun i => i ≤ (a.Clocks).length) (fun i => [(5, .int .i64 (i : Nat)), (1, .int .i64 (1 + 1 * (i : Nat)))]) (fun i => [(24592, ⟨false, 49, 1, (markList 1 ClockT.mark (1) i).map ClockT.cells ++ ((a.Clocks).drop i).map ClockT.cells⟩)]) (fun i => (a.Clocks).length - i) 0 ⟨by first | first | exact congrArg (AV.int IntKind.i64) (by omega) | exact congrArg (AV.int IntKind.i64) ((inc_eq rfl (by omega) (by omega)).trans (by omega)) | rfl | fail, by first | first | exact congrArg (AV.int IntKind.i64) (by omega) | exact congrArg (AV.int IntKind.i64) ((inc_eq rfl (by omega) (by omega)).trans (by omega)) | rfl | fail, trivial⟩ ⟨by first | rfl | exact congrArg (fun e => some (AObj.mk false _ _ e)) (by (try simp only [List.set_set]); exact mark_set hx rfl) | fail | fail, trivial⟩ (by (try dsimp only); first | (exact Nat.zero_le _) | fail) ?_; (conv => whnf); refine side_and (side_of (by first | exact fun i => rfl | exact fun i => by simp [headOk, closedE, closedO, closedL, AV.closed, hcap.closed])) ?_; rintro i hM; try dsimp only at hM)
        | (refine Loop_at [0] [0, 8224, 8225, 8226, 20496, 20497, 20498, 20544, 20545, 20546, 20608, 24592, 24594, 24608, 28720, 28721, 28722, 28784, 32800, 32801, 32802, 40992, 40993, 40994, 41008, 41009, 41010, 53280, 53281, 53282, 57424, 57425, 57426, 69664, 69665, 69666, 77856, 77857, 77858, 98320, 98321, 98322, 98368, 98369, 98370, 98432, 102432, 102433, 102434, 114720, 114721, 114722, 1000000, 2000000] (Nat) (fun i => i ≤ (a.Given).length) (fun i => [(5, .int .i64 (i : Nat)), (1, .int .i64 (1 + 1 * (a.Clocks.length : Int) + 3 * (i : Nat)))]) (fun i => [(24593, ⟨false, 85, 3, (markList 3 LeaseT.mark (1 + 1 * (a.Clocks.length : Int)) i).map LeaseT.cells ++ ((a.Given).drop i).map LeaseT.cells⟩)]) (fun i => (a.Given).length - i) 0 ⟨by first | first | exact congrArg (AV.int IntKind.i64) (by omega) | exact congrArg (AV.int IntKind.i64) ((inc_eq (inc_eq (inc_eq rfl (by omega) (by omega)) (by omega) (by omega)) (by omega) (by omega)).trans (by omega)) | rfl | fail, by first | first | exact congrArg (AV.int IntKind.i64) (by omega) | exact congrArg (AV.int IntKind.i64) ((inc_eq (inc_eq (inc_eq rfl (by omega) (by omega)) (by omega) (by omega)) (by omega) (by omega)).trans (by omega)) | rfl | fail, trivial⟩ ⟨by first | rfl | exact congrArg (fun e => some (AObj.mk false _ _ e)) (by (try simp only [List.set_set]); exact mark_set hx rfl) | fail | fail, trivial⟩ (by (try dsimp only); first | (exact Nat.zero_le _) | fail) ?_; (conv => whnf); refine side_and (side_of (by first | exact fun i => rfl | exact fun i => by simp [headOk, closedE, closedO, closedL, AV.closed, hcap.closed])) ?_; rintro i hM; try dsimp only at hM)
        | (refine Loop_at [0] [0, 8224, 8225, 8226, 20496, 20497, 20498, 20544, 20545, 20546, 20608, 24592, 24593, 24594, 24608, 28721, 28722, 28784, 32800, 32801, 32802, 40992, 40993, 40994, 41008, 41009, 41010, 53280, 53281, 53282, 57424, 57425, 57426, 69664, 69665, 69666, 77856, 77857, 77858, 98320, 98321, 98322, 98368, 98369, 98370, 98432, 102432, 102433, 102434, 114720, 114721, 114722, 1000000, 2000000] (Nat) (fun i => i ≤ (W.Clocks).length) (fun i => [(5, .int .i64 (i : Nat)), (1, .int .i64 (1 + 1 * (i : Nat)))]) (fun i => [(28720, ⟨false, 49, 1, (markList 1 ClockT.mark (1) i).map ClockT.cells ++ ((W.Clocks).drop i).map ClockT.cells⟩)]) (fun i => (W.Clocks).length - i) 0 ⟨by first | first | exact congrArg (AV.int IntKind.i64) (by omega) | exact congrArg (AV.int IntKind.i64) ((inc_eq rfl (by omega) (by omega)).trans (by omega)) | rfl | fail, by first | first | exact congrArg (AV.int IntKind.i64) (by omega) | exact congrArg (AV.int IntKind.i64) ((inc_eq rfl (by omega) (by omega)).trans (by omega)) | rfl | fail, trivial⟩ ⟨by first | rfl | exact congrArg (fun e => some (AObj.mk false _ _ e)) (by (try simp only [List.set_set]); exact mark_set hx rfl) | fail | fail, trivial⟩ (by (try dsimp only); first | (exact Nat.zero_le _) | fail) ?_; (conv => whnf); refine side_and (side_of (by first | exact fun i => rfl | exact fun i => by simp [headOk, closedE, closedO, closedL, AV.closed, hcap.closed])) ?_; rintro i hM; try dsimp only at hM)
        | (refine Loop_at [0] [0, 8224, 8225, 8226, 20496, 20497, 20498, 20544, 20545, 20546, 20608, 24592, 24593, 24594, 24608, 28720, 28722, 28784, 32800, 32801, 32802, 40992, 40993, 40994, 41008, 41009, 41010, 53280, 53281, 53282, 57424, 57425, 57426, 69664, 69665, 69666, 77856, 77857, 77858, 98320, 98321, 98322, 98368, 98369, 98370, 98432, 102432, 102433, 102434, 114720, 114721, 114722, 1000000, 2000000] (Nat) (fun i => i ≤ (W.Given).length) (fun i => [(5, .int .i64 (i : Nat)), (1, .int .i64 (1 + 1 * (W.Clocks.length : Int) + 3 * (i : Nat)))]) (fun i => [(28721, ⟨false, 85, 3, (markList 3 LeaseT.mark (1 + 1 * (W.Clocks.length : Int)) i).map LeaseT.cells ++ ((W.Given).drop i).map LeaseT.cells⟩)]) (fun i => (W.Given).length - i) 0 ⟨by first | first | exact congrArg (AV.int IntKind.i64) (by omega) | exact congrArg (AV.int IntKind.i64) ((inc_eq (inc_eq (inc_eq rfl (by omega) (by omega)) (by omega) (by omega)) (by omega) (by omega)).trans (by omega)) | rfl | fail, by first | first | exact congrArg (AV.int IntKind.i64) (by omega) | exact congrArg (AV.int IntKind.i64) ((inc_eq (inc_eq (inc_eq rfl (by omega) (by omega)) (by omega) (by omega)) (by omega) (by omega)).trans (by omega)) | rfl | fail, trivial⟩ ⟨by first | rfl | exact congrArg (fun e => some (AObj.mk false _ _ e)) (by (try simp only [List.set_set]); exact mark_set hx rfl) | fail | fail, trivial⟩ (by (try dsimp only); first | (exact Nat.zero_le _) | fail) ?_; (conv => whnf); refine side_and (side_of (by first | exact fun i => rfl | exact fun i => by simp [headOk, closedE, closedO, closedL, AV.closed, hcap.closed])) ?_; rintro i hM; try dsimp only at hM))
    | (show Go.Ab.Again _ _ _ _ _ _ _ _ _ _ _; first
        | refine Again_of (i + 1) ⟨by first | rfl | exact i64_next (by omega) | first | exact congrArg (AV.int IntKind.i64) (by omega) | exact congrArg (AV.int IntKind.i64) ((inc_eq rfl (by omega) (by omega)).trans (by omega)) | fail, by first | first | exact congrArg (AV.int IntKind.i64) (by omega) | exact congrArg (AV.int IntKind.i64) ((inc_eq rfl (by omega) (by omega)).trans (by omega)) | rfl | fail, trivial⟩ ⟨by first | rfl | exact congrArg (fun e => some (AObj.mk false _ _ e)) (by (try simp only [List.set_set]); exact mark_set hx rfl) | fail | fail, trivial⟩ (by first | (and_intros <;> first | rfl | trivial) | fail) (by first | (and_intros <;> first | rfl | trivial) | fail) rfl rfl rfl (by (try dsimp only); first | ((show i + 1 ≤ _; omega)) | fail) (show _ < _ by (try dsimp only); omega)
        | refine Again_of (i + 1) ⟨by first | rfl | exact i64_next (by omega) | first | exact congrArg (AV.int IntKind.i64) (by omega) | exact congrArg (AV.int IntKind.i64) ((inc_eq (inc_eq (inc_eq rfl (by omega) (by omega)) (by omega) (by omega)) (by omega) (by omega)).trans (by omega)) | fail, by first | first | exact congrArg (AV.int IntKind.i64) (by omega) | exact congrArg (AV.int IntKind.i64) ((inc_eq (inc_eq (inc_eq rfl (by omega) (by omega)) (by omega) (by omega)) (by omega) (by omega)).trans (by omega)) | rfl | fail, trivial⟩ ⟨by first | rfl | exact congrArg (fun e => some (AObj.mk false _ _ e)) (by (try simp only [List.set_set]); exact mark_set hx rfl) | fail | fail, trivial⟩ (by first | (and_intros <;> first | rfl | trivial) | fail) (by first | (and_intros <;> first | rfl | trivial) | fail) rfl rfl rfl (by (try dsimp only); first | ((show i + 1 ≤ _; omega)) | fail) (show _ < _ by (try dsimp only); omega)
        | refine Again_of (i + 1) ⟨by first | rfl | exact i64_next (by omega) | first | exact congrArg (AV.int IntKind.i64) (by omega) | exact congrArg (AV.int IntKind.i64) ((inc_eq rfl (by omega) (by omega)).trans (by omega)) | fail, by first | first | exact congrArg (AV.int IntKind.i64) (by omega) | exact congrArg (AV.int IntKind.i64) ((inc_eq rfl (by omega) (by omega)).trans (by omega)) | rfl | fail, trivial⟩ ⟨by first | rfl | exact congrArg (fun e => some (AObj.mk false _ _ e)) (by (try simp only [List.set_set]); exact mark_set hx rfl) | fail | fail, trivial⟩ (by first | (and_intros <;> first | rfl | trivial) | fail) (by first | (and_intros <;> first | rfl | trivial) | fail) rfl rfl rfl (by (try dsimp only); first | ((show i + 1 ≤ _; omega)) | fail) (show _ < _ by (try dsimp only); omega)
        | refine Again_of (i + 1) ⟨by first | rfl | exact i64_next (by omega) | first | exact congrArg (AV.int IntKind.i64) (by omega) | exact congrArg (AV.int IntKind.i64) ((inc_eq (inc_eq (inc_eq rfl (by omega) (by omega)) (by omega) (by omega)) (by omega) (by omega)).trans (by omega)) | fail, by first | first | exact congrArg (AV.int IntKind.i64) (by omega) | exact congrArg (AV.int IntKind.i64) ((inc_eq (inc_eq (inc_eq rfl (by omega) (by omega)) (by omega) (by omega)) (by omega) (by omega)).trans (by omega)) | rfl | fail, trivial⟩ ⟨by first | rfl | exact congrArg (fun e => some (AObj.mk false _ _ e)) (by (try simp only [List.set_set]); exact mark_set hx rfl) | fail | fail, trivial⟩ (by first | (and_intros <;> first | rfl | trivial) | fail) (by first | (and_intros <;> first | rfl | trivial) | fail) rfl rfl rfl (by (try dsimp only); first | ((show i + 1 ≤ _; omega)) | fail) (show _ < _ by (try dsimp only); omega))
    | (show Go.Ab.CallA _ _ _ _ _ _ _; first
        | (by_cases hn : (1048576 : Int) - ((WatchT.w a : Nat) : Int) < 0 <;> first | refine Call0 (pc_szneg (c_laws_szWatch a (1048576 : Int) (by omega) (by omega) hok) hn) rfl rfl ?_ | refine Call0 (pc_szpos (c_laws_szWatch a (1048576 : Int) (by omega) (by omega) hok) hn) rfl rfl ?_)
        | refine CallF (hS (by omega)) rfl rfl rfl (Nat.le_of_ble_eq_true rfl) ?_
        | refine CallF (hI (by omega)) rfl rfl rfl (Nat.le_of_ble_eq_true rfl) ?_
        | refine CallF (c_laws_toWatch a (by omega)) rfl rfl rfl (Nat.le_of_ble_eq_true rfl) ?_
        | refine Call0 (pc_true (c_laws_eqWatch W W hW) rfl) rfl rfl ?_
        | refine Call0 (pc_true (c_laws_eqWatch a a hok) rfl) rfl rfl ?_
        | refine CallI (nid := 4096 * 13 + 16 * 2) (f := 16) Try.func16 rfl (by kernel_rfl) 1000000 [1, 2, 3, 8, 9, 11, 12] 14 [.tmp 4] rfl rfl ?_
        | refine CallI (nid := 4096 * 17 + 16 * 2) (f := 16) Try.func16 rfl (by kernel_rfl) 2000000 [1, 2, 3, 8, 9, 11] 14 [.tmp 4] rfl rfl ?_
        | refine CallI (f := 50) Try.func50 rfl (by kernel_rfl) 3000000 [2] 20 [.tmp 4] rfl rfl ?_
        | refine CallI (f := 51) Try.func51 rfl (by kernel_rfl) 4000000 [] 34 [.tmp 4] rfl rfl ?_
        | refine Call0 (c_laws_heldWatchB W.True W.Clocks.length W.Given.length hc hg) (held_watch (mark_end (by omega) (by omega)) (mark_end (by omega) (by omega))) rfl ?_)
    | (show Go.Ab.CallD _ _ _ _ _ _ _; first
        | (by_cases hn : (1048576 : Int) - ((WatchT.w a : Nat) : Int) < 0 <;> first | refine CallD0 (pc_szneg (c_laws_szWatch a (1048576 : Int) (by omega) (by omega) hok) hn) rfl rfl rfl ?_ | refine CallD0 (pc_szpos (c_laws_szWatch a (1048576 : Int) (by omega) (by omega) hok) hn) rfl rfl rfl ?_)
        | refine CallDF (hS (by omega)) rfl rfl ⟨rfl, rfl⟩ ?_
        | refine CallDF (hI (by omega)) rfl rfl ⟨rfl, rfl⟩ ?_
        | refine CallDF (c_laws_toWatch a (by omega)) rfl rfl ⟨rfl, rfl⟩ ?_
        | refine CallD0 (pc_true (c_laws_eqWatch W W hW) rfl) rfl rfl rfl ?_
        | refine CallD0 (pc_true (c_laws_eqWatch a a hok) rfl) rfl rfl rfl ?_
        | refine CallD0 (c_laws_heldWatchB W.True W.Clocks.length W.Given.length hc hg) (held_watch (mark_end (by omega) (by omega)) (mark_end (by omega) (by omega))) rfl ?_)
    | (show Go.Ab.RetI _ _ _ _ _ _ _ _; refine RetI_of rfl ?_)
    | refine ix_map_at hx ?_
    | refine ix_map_at hy ?_
    | refine sl_pre (by omega) (fun _ => rfl) ?_
    | refine sl_suf (by omega) (fun _ => rfl) ?_
    | (refine ix_map2 hx (by omega) (by (try simp only [List.length_take]); omega) (fun y hy => ?_); try simp only [Int.toNat_natCast] at hy)
    | (refine ix_map (by omega) (by (try simp only [List.length_take]); omega) (fun x hx => ?_); try simp only [Int.toNat_natCast] at hx)
    | refine side_and (side_of (by first | (and_intros <;> first | exact Nat.le_of_ble_eq_true rfl | rfl | omega | (simp only [List.length_map, List.length_append, List.length_replicate, List.length_take, List.length_cons, List.length_nil, List.length_drop, List.length_set, markList_length]; omega) | exact bytes_ok (Nat.le_of_ble_eq_true rfl) (by omega) (by simp only [List.length_map, List.length_append, List.length_replicate, List.length_take, List.length_cons, List.length_nil, List.length_drop, List.length_set, markList_length]; omega) | exact bytes_okN (Nat.le_of_ble_eq_true rfl) (by simp only [List.length_map, List.length_append, List.length_replicate, List.length_take, List.length_cons, List.length_nil, List.length_drop, List.length_set, markList_length]; omega)) | fail)) ?_
    | refine nilB_intro (fun h => ?_) ?_
    | refine side_and (side_of (map_len (fun _ => rfl))) ?_
    | refine side_and (side_of (map_one (fun _ => rfl) _)) ?_
    | refine side_and ?_ ?_
    | refine LoadK_of rfl rfl ?_
    | (obtain ⟨x, hx⟩ := get_lt (xs := a.Clocks) (i := i) (by omega); refine ix_mark (by simp only [List.length_map, markList_length]) hx ?_)
    | refine ix_set (by simp only [List.length_map, List.length_append, List.length_drop, List.length_set, markList_length]; omega) ?_
    | (obtain ⟨x, hx⟩ := get_lt (xs := a.Given) (i := i) (by omega); refine ix_mark (by simp only [List.length_map, markList_length]) hx ?_)
    | refine ix_set (by simp only [List.length_map, List.length_append, List.length_drop, List.length_set, markList_length]; omega) ?_
    | (obtain ⟨x, hx⟩ := get_lt (xs := W.Clocks) (i := i) (by omega); refine ix_mark (by simp only [List.length_map, markList_length]) hx ?_)
    | refine ix_set (by simp only [List.length_map, List.length_append, List.length_drop, List.length_set, markList_length]; omega) ?_
    | (obtain ⟨x, hx⟩ := get_lt (xs := W.Given) (i := i) (by omega); refine ix_mark (by simp only [List.length_map, markList_length]) hx ?_)
    | refine ix_set (by simp only [List.length_map, List.length_append, List.length_drop, List.length_set, markList_length]; omega) ?_
    | (show False; omega)
  all_goals
    conv => whnf
    refine OutA_plain rfl rfl ?_
    first | rfl | (exfalso; omega) | (exfalso; simp at *; omega)
theorem c_laws_FnExactAskLease (a : WatchT) (who long : Int) (hok : a.ok) : PC Try.prog false 7 [.agg a.cells, .int .i64 who, .int .i64 long] (.bool true) [] := by
  by_cases hw : a.w ≤ 1048576
  · have hw2 : a.w = a.Clocks.length + a.Given.length := rfl
    refine law_AskLease a (resW (okAsk a who long) (askW a who long)) (okAsk a who long) who long hok ?_ ?_ ?_ (fun _ => c_spec_AskLease a who long hok hw) (fun _ => c_impl_AskLease a who long hok hw)
    · cases okAsk a who long with
      | true => exact ask_okk hok hw
      | false => exact zero_ok
    · cases okAsk a who long with
      | true => show (WatchT.Clocks (askW a who long)).length ≤ _; first | (show a.Clocks.length ≤ _; omega) | (simp only [List.length_set, List.length_append, List.length_map]; omega)
      | false => exact Nat.zero_le _
    · cases okAsk a who long with
      | true => show (WatchT.Given (askW a who long)).length ≤ _; first | (show a.Given.length ≤ _; omega) | (show (a.Given.map _).length ≤ _; rw [List.length_map]; omega) | (show (a.Given ++ [_]).length ≤ _; simp only [List.length_append, List.length_cons, List.length_nil]; omega)
      | false => exact Nat.zero_le _
  · exact law_AskLease a ⟨0, [], []⟩ false who long hok zero_ok (Nat.zero_le _) (Nat.zero_le _) (fun h => absurd (Nat.le_trans h (by decide)) hw) (fun h => absurd (Nat.le_trans h (by decide)) hw)
end Go.Proofs.Ytcdlapjpnenkdaa
