/-
  What the functions that give leases back give.
  No condition.
-/
import Derived.Test.YtgeoghlgpnedfaaWatch6
namespace Go.Proofs.Ytgeoghlgpnedfaa
open Go.Ab
set_option linter.unusedSimpArgs false
set_option maxRecDepth 20000
set_option maxHeartbeats 2000000
set_option linter.unusedVariables false

def endL (who low : Int) (l : LeaseT) : LeaseT := if l.Who = who ∧ l.Until ≥ low then { l with Until := IntKind.i64.wrap (low - 1) } else l
def giveW (w : WatchT) (who : Int) : WatchT := { w with Given := w.Given.map (endL who (spanAt w who).Low) }
def okGive (w : WatchT) (who : Int) : Bool := okWatch w && okWho w.Clocks.length who && holds w who
section
variable {α : Type} {g : α → α} {f : α → List AV} {xs : List α} {k : Nat} {x : α}
theorem map_set {e : List AV} (hx : xs[k]? = some x) (he : e = f (g x)) : (((xs.take k).map g).map f ++ (xs.drop k).map f).set k e = ((xs.take (k + 1)).map g).map f ++ (xs.drop (k + 1)).map f := by
  subst he
  have hk : k < xs.length := (List.getElem?_eq_some_iff.1 hx).1
  rw [List.set_append_right _ _ (by simp; omega), drop_get hx, take_get hx]
  have e0 : k - (((xs.take k).map g).map f).length = 0 := by simp; omega
  rw [e0]
  simp only [List.map_cons, List.set_cons_zero, List.map_append, List.map_nil, List.append_assoc, List.cons_append, List.nil_append]
theorem map_keep (hx : xs[k]? = some x) (he : g x = x) : ((xs.take k).map g).map f ++ (xs.drop k).map f = ((xs.take (k + 1)).map g).map f ++ (xs.drop (k + 1)).map f := by
  rw [drop_get hx, take_get hx]
  simp only [List.map_cons, List.map_append, List.map_nil, List.append_assoc, List.cons_append, List.nil_append, he]
theorem map_all (h : xs.length ≤ k) : ((xs.take k).map g).map f ++ (xs.drop k).map f = (xs.map g).map f := by
  rw [List.take_of_length_le h, List.drop_eq_nil_of_le h]
  simp
theorem map_len2 (h : k ≤ xs.length) : (((xs.take k).map g).map f).length = k := by simp; omega
theorem ix_own {A : List (List AV)} {Q : List AV → Prop} (hA : A.length = k) (hx : xs[k]? = some x) (hQ : Q (f x)) : ∃ e, (A ++ (xs.drop k).map f)[(k : Int).toNat]? = some e ∧ Q e := ix_mark hA hx hQ
end
theorem endL_yes {who low : Int} {l : LeaseT} (h : l.Who = who) (h2 : l.Until ≥ low) : endL who low l = { l with Until := IntKind.i64.wrap (low - 1) } := by unfold endL; rw [if_pos ⟨h, h2⟩]
theorem endL_no1 {who low : Int} {l : LeaseT} (h : ¬ l.Who = who) : endL who low l = l := by unfold endL; rw [if_neg (fun e => h e.1)]
theorem endL_no2 {who low : Int} {l : LeaseT} (h2 : ¬ l.Until ≥ low) : endL who low l = l := by unfold endL; rw [if_neg (fun e => h2 e.2)]
theorem give_okk {w : WatchT} {who : Int} (hok : w.ok) : (giveW w who).ok := by
  refine ⟨hok.1, hok.2.1, ⟨?_, fun l hl => ⟨trivial, trivial, trivial⟩⟩⟩
  show (w.Given.map _).length ≤ _
  rw [List.length_map]
  exact hok.2.2.1
theorem give_good {w : WatchT} {who : Int} (hw : okWatch w = true) : okWatch (giveW w who) = true := by
  have hs := spanAt_of (who := who) hw
  have ho := okWatch_of hw
  have hlow : IntKind.i64.wrap ((spanAt w who).Low - 1) = (spanAt w who).Low - 1 := i64_wrap (by omega) (by omega)
  have key : ∀ ls : List LeaseT, ls.all (okLease w.Clocks.length) = true → (ls.map (endL who (spanAt w who).Low)).all (okLease w.Clocks.length) = true := by
    intro ls h
    rw [List.all_eq_true] at h ⊢
    intro l hl
    obtain ⟨l0, h0, rfl⟩ := List.mem_map.1 hl
    have h1 := h l0 h0
    unfold endL
    split
    · simp only [okLease, Bool.and_eq_true] at h1 ⊢
      refine ⟨h1.1, ?_⟩
      rw [hlow]
      simp only [inB, Bool.and_eq_true, decide_eq_true_eq]
      omega
    · exact h1
  have e : okWatch (giveW w who) = (inB 0 w.True 100000 && (inB 1 w.Clocks.length 5 && w.Clocks.all okClock) && decide (((w.Given.map (endL who (spanAt w who).Low)).length : Int) ≤ 40) && (w.Given.map (endL who (spanAt w who).Low)).all (okLease w.Clocks.length)) := rfl
  simp only [okWatch, Bool.and_eq_true] at hw
  rw [e, key _ hw.2, List.length_map, hw.1.2, hw.1.1.1, hw.1.1.2.1, hw.1.1.2.2]
  rfl
theorem c_impl_HoldsLease2 (w : WatchT) (who : Int) (hok : w.ok) (hw : w.w ≤ 1048576) : PC Try.prog false 214 [.agg w.cells, .int .i64 who] (.tup [.bool (okGive w who), .bool (okWatch w && okWho w.Clocks.length who)]) [] := c_impl_HoldsLease w who hok hw
theorem c_impl_GiveBack (w : WatchT) (who : Int) (hok : w.ok) (hl : w.w ≤ 1048576) : PC Try.prog false 144 [.agg w.cells, .int .i64 who] (.tup [.agg [.int .i64 (resW (okGive w who) (giveW w who)).True, .own 0, .own 1], .bool (okGive w who)]) (watchOs (resW (okGive w who) (giveW w who)).Clocks (resW (okGive w who) (giveW w who)).Given) := by
  have hw2 : w.w = w.Clocks.length + w.Given.length := rfl
  have key : okGive w who = true → okWatch w = true ∧ (0 ≤ who ∧ who < w.Clocks.length) := fun h => by
    simp only [okGive, Bool.and_eq_true] at h
    exact ⟨h.1.1, okWho_lt h.1.2 (by omega)⟩
  refine pc_at Try.func144 rfl (by kernel_rfl) 57 [.cell 4 30, .tmp 5] rfl rfl ?_
  repeat' (conv => whnf); first
    | refine ix_own (map_len2 hT) hx ?_
    | (obtain ⟨x, hx⟩ := get_lt (xs := w.Given) (i := k) (by omega); refine ix_own (map_len2 hT) hx ?_)
    | refine nameB_true ?_
    | refine nameB_false ?_
    | refine nameB_yes (by assumption) ?_
    | refine nameB_no (by assumption) ?_
    | refine nameB_dyes (by assumption) ?_
    | refine nameB_dno (by assumption) ?_
    | (refine nameB_dec (fun h => ?_) (fun h => ?_) <;> try simp only [List.length_map, List.length_take, List.length_append, List.length_drop, List.length_set, markList_length, midL_len, mkL_length, Int.toNat_natCast, fact_byte] at h)
    | (refine nameB_cases (fun h => ?_) (fun h => ?_) <;> try simp only [bne_iff_ne, ne_eq, bne_eq_false_iff_eq, beq_iff_eq, beq_eq_false_iff_ne, Bool.not_eq_true', Bool.not_eq_false', Bool.or_eq_true, Bool.or_eq_false_iff, List.length_map, List.length_take, List.length_append, List.length_drop, List.length_set, markList_length, midL_len, mkL_length, Int.toNat_natCast, fact_byte] at h)
    | refine splitB_true ?_
    | refine splitB_false ?_
    | (refine splitB_intro (fun h => ?_) (fun h => ?_) <;> subst h)
    | refine ⟨⟨by kernel_rfl, by kernel_rfl, by kernel_rfl⟩, ?_⟩
    | (show Go.Ab.Loop _ _ _; (refine Loop_at [1, 4, 8, 9, 28, 29] [0, 16, 16400, 16416] (Nat) (fun k => k ≤ w.Given.length) (fun k => [(30, .int .i64 (k : Nat))]) (fun k => [(16401, ⟨false, 112, 3, ((w.Given.take k).map (endL who (spanAt w who).Low)).map LeaseT.cells ++ (w.Given.drop k).map LeaseT.cells⟩)]) (fun k => w.Given.length - k) 0 ⟨by first | (simp_all <;> fail) | rfl | fail, trivial⟩ ⟨by first | rfl | first | exact congrArg (fun e => some (AObj.mk false _ _ e)) (map_set hx (by rw [endL_yes (by assumption) (by assumption)]; rfl)) | exact congrArg (fun e => some (AObj.mk false _ _ e)) (map_keep hx (endL_no1 (by assumption))) | exact congrArg (fun e => some (AObj.mk false _ _ e)) (map_keep hx (endL_no2 (by assumption))) | fail | fail, trivial⟩ (by (try dsimp only); first | (exact Nat.zero_le _) | fail) ?_; (conv => whnf); refine side_and (side_of (by first | exact fun k => rfl | exact fun k => by simp [headOk, closedE, closedO, closedL, AV.closed, hcap.closed])) ?_; rintro k hT; try dsimp only at hT))
    | (show Go.Ab.Again _ _ _ _ _ _ _ _ _ _ _; refine Again_of (k + 1) ⟨by first | rfl | exact i64_next (by omega) | (simp_all <;> fail) | fail, trivial⟩ ⟨by first | rfl | first | exact congrArg (fun e => some (AObj.mk false _ _ e)) (map_set hx (by rw [endL_yes (by assumption) (by assumption)]; rfl)) | exact congrArg (fun e => some (AObj.mk false _ _ e)) (map_keep hx (endL_no1 (by assumption))) | exact congrArg (fun e => some (AObj.mk false _ _ e)) (map_keep hx (endL_no2 (by assumption))) | fail | fail, trivial⟩ (by first | (and_intros <;> first | rfl | trivial) | fail) (by first | (and_intros <;> first | rfl | trivial) | fail) rfl rfl rfl (by (try dsimp only); first | ((show k + 1 ≤ _; omega)) | fail) (show _ < _ by (try dsimp only); omega))
    | (show Go.Ab.CallA _ _ _ _ _ _ _; first
        | refine Call0 (c_impl_HoldsLease2 w who hok hl) rfl rfl ?_
        | refine CallF (c_impl_copyWatch w hl) rfl rfl rfl (Nat.le_of_ble_eq_true rfl) ?_
        | refine Call0 (c_impl_Watch_span w who (key (by assumption)).1 (key (by assumption)).2) rfl rfl ?_
        | refine CallI (nid := 4096 * 12 + 16 * 1) (f := 64) Try.func64 rfl (by kernel_rfl) 1000000 [4] 9 [.cell 2 30, .tmp 3] rfl rfl ?_
        | refine Call0 (pc_bool (c_impl_GoodWatch (giveW w who) (give_okk hok)) (give_good (key (by assumption)).1)) (congrArg (fun l => [AV.agg [AV.int .i64 w.True, .sl (w.Clocks.map ClockT.cells), .sl l]]) (map_all (by omega))) rfl ?_)
    | (show Go.Ab.RetI _ _ _ _ _ _ _ _; refine RetI_of rfl ?_)
    | refine ix_map_at hx ?_
    | refine ix_map_at hy ?_
    | refine sl_pre (by omega) (fun _ => rfl) ?_
    | refine sl_suf (by omega) (fun _ => rfl) ?_
    | (refine ix_map2 hx (by omega) (by (try simp only [List.length_take]); omega) (fun y hy => ?_); try simp only [Int.toNat_natCast] at hy)
    | (refine ix_map (by omega) (by (try simp only [List.length_take]); omega) (fun x hx => ?_); try simp only [Int.toNat_natCast] at hx)
    | refine side_and (side_of (by first | (and_intros <;> first | exact Nat.le_of_ble_eq_true rfl | rfl | omega | (simp only [List.length_map, List.length_append, List.length_replicate, List.length_take, List.length_cons, List.length_nil, List.length_drop, List.length_set, markList_length, midL_len, mkL_length]; omega) | exact bytes_ok (Nat.le_of_ble_eq_true rfl) (by omega) (by simp only [List.length_map, List.length_append, List.length_replicate, List.length_take, List.length_cons, List.length_nil, List.length_drop, List.length_set, markList_length, midL_len, mkL_length]; omega) | exact bytes_okN (Nat.le_of_ble_eq_true rfl) (by simp only [List.length_map, List.length_append, List.length_replicate, List.length_take, List.length_cons, List.length_nil, List.length_drop, List.length_set, markList_length, midL_len, mkL_length]; omega)) | fail)) ?_
    | refine nilB_intro (fun h => ?_) ?_
    | refine side_and (side_of (show Go.Ab.structOk _ _ = true by kernel_rfl)) ?_
    | refine side_and (side_of (map_len (fun _ => rfl))) ?_
    | refine side_and (side_of (map_one (fun _ => rfl) _)) ?_
    | refine side_and ?_ ?_
    | refine LoadK_of rfl rfl ?_
    | refine LoadD_cel rfl rfl rfl rfl ?_
    | refine LoadD_of rfl ?_
    | refine StoreD_of rfl rfl rfl ?_
    | refine AppD_of rfl (by and_intros <;> first | rfl | decide) (by simp only [List.length_map, List.length_append, List.length_take, List.length_cons, List.length_nil]; first | (refine ⟨by omega, ?_⟩; refine Nat.le_trans (Nat.mul_le_mul_left _ (show _ ≤ 512 by decide)) ?_; omega) | fail) ?_
    | refine AppN_of rfl rfl (by and_intros <;> rfl) (by simp only [List.length_map, List.length_append, List.length_take, List.length_cons, List.length_nil]; first | (refine ⟨by omega, ?_⟩; refine Nat.le_trans (Nat.mul_le_mul_left _ (show _ ≤ 512 by decide)) ?_; omega) | fail) ?_
    | (show False; omega)
  all_goals
    conv => whnf
    first
    | (rw [show (okGive w who) = true from (by first | (simp only [id, *, Bool.and_true, Bool.and_false, Bool.true_and, Bool.false_and, Bool.not_true, Bool.not_false] <;> fail) | fail)]; exact OutA_ids rfl rfl rfl ⟨⟨_, _, _, rfl, rfl⟩, ⟨_, _, _, rfl, congrArg (AObj.mk false _ _) (map_all (by omega)).symm⟩, trivial⟩ rfl (.inr watch_flat))
    | (rw [show (okGive w who) = false from (by first | (simp only [id, *, Bool.and_true, Bool.and_false, Bool.true_and, Bool.false_and, Bool.not_true, Bool.not_false] <;> fail) | fail)]; exact OutA_nilB 16 1 27 1 1 rfl rfl rfl (by decide) (OutA_nilB 16 2 112 3 2 rfl rfl rfl (by decide) (OutA_ids rfl rfl rfl ⟨⟨_, _, _, rfl, rfl⟩, ⟨_, _, _, rfl, rfl⟩, trivial⟩ rfl (.inr watch_flat))))
theorem c_spec_GiveBack (w : WatchT) (who : Int) (hok : w.ok) (hl : w.w ≤ 1048576) : PC Try.prog false 149 [.agg w.cells, .int .i64 who] (.tup [.agg [.int .i64 (resW (okGive w who) (giveW w who)).True, .own 0, .own 1], .bool (okGive w who)]) (watchOs (resW (okGive w who) (giveW w who)).Clocks (resW (okGive w who) (giveW w who)).Given) := by
  have hw2 : w.w = w.Clocks.length + w.Given.length := rfl
  have key : (okWatch w && okWho w.Clocks.length who) = true → okWatch w = true ∧ (0 ≤ who ∧ who < w.Clocks.length) := fun h => by
    rw [Bool.and_eq_true] at h
    exact ⟨h.1, okWho_lt h.2 (by omega)⟩
  refine pc_at Try.func149 rfl (by kernel_rfl) 59 [.cell 4 30, .tmp 5] rfl rfl ?_
  repeat' (conv => whnf); first
    | refine ix_own (map_len2 hT) hx ?_
    | (obtain ⟨x, hx⟩ := get_lt (xs := w.Given) (i := k) (by omega); refine ix_own (map_len2 hT) hx ?_)
    | refine nameB_true ?_
    | refine nameB_false ?_
    | refine nameB_yes (by assumption) ?_
    | refine nameB_no (by assumption) ?_
    | refine nameB_dyes (by assumption) ?_
    | refine nameB_dno (by assumption) ?_
    | (refine nameB_dec (fun h => ?_) (fun h => ?_) <;> try simp only [List.length_map, List.length_take, List.length_append, List.length_drop, List.length_set, markList_length, midL_len, mkL_length, Int.toNat_natCast, fact_byte] at h)
    | (refine nameB_cases (fun h => ?_) (fun h => ?_) <;> try simp only [bne_iff_ne, ne_eq, bne_eq_false_iff_eq, beq_iff_eq, beq_eq_false_iff_ne, Bool.not_eq_true', Bool.not_eq_false', Bool.or_eq_true, Bool.or_eq_false_iff, List.length_map, List.length_take, List.length_append, List.length_drop, List.length_set, markList_length, midL_len, mkL_length, Int.toNat_natCast, fact_byte] at h)
    | refine splitB_true ?_
    | refine splitB_false ?_
    | (refine splitB_intro (fun h => ?_) (fun h => ?_) <;> subst h)
    | refine ⟨⟨by kernel_rfl, by kernel_rfl, by kernel_rfl⟩, ?_⟩
    | (show Go.Ab.Loop _ _ _; (refine Loop_at [1, 4, 6, 7] [0, 16, 12304, 12320] (Nat) (fun k => k ≤ w.Given.length) (fun k => [(8, .int .i64 (k : Nat))]) (fun k => [(12305, ⟨false, 112, 3, ((w.Given.take k).map (endL who (spanAt w who).Low)).map LeaseT.cells ++ (w.Given.drop k).map LeaseT.cells⟩)]) (fun k => w.Given.length - k) 0 ⟨by first | (simp_all <;> fail) | rfl | fail, trivial⟩ ⟨by first | rfl | first | exact congrArg (fun e => some (AObj.mk false _ _ e)) (map_set hx (by rw [endL_yes (by assumption) (by assumption)]; rfl)) | exact congrArg (fun e => some (AObj.mk false _ _ e)) (map_keep hx (endL_no1 (by assumption))) | exact congrArg (fun e => some (AObj.mk false _ _ e)) (map_keep hx (endL_no2 (by assumption))) | fail | fail, trivial⟩ (by (try dsimp only); first | (exact Nat.zero_le _) | fail) ?_; (conv => whnf); refine side_and (side_of (by first | exact fun k => rfl | exact fun k => by simp [headOk, closedE, closedO, closedL, AV.closed, hcap.closed])) ?_; rintro k hT; try dsimp only at hT))
    | (show Go.Ab.Again _ _ _ _ _ _ _ _ _ _ _; refine Again_of (k + 1) ⟨by first | rfl | exact i64_next (by omega) | (simp_all <;> fail) | fail, trivial⟩ ⟨by first | rfl | first | exact congrArg (fun e => some (AObj.mk false _ _ e)) (map_set hx (by rw [endL_yes (by assumption) (by assumption)]; rfl)) | exact congrArg (fun e => some (AObj.mk false _ _ e)) (map_keep hx (endL_no1 (by assumption))) | exact congrArg (fun e => some (AObj.mk false _ _ e)) (map_keep hx (endL_no2 (by assumption))) | fail | fail, trivial⟩ (by first | (and_intros <;> first | rfl | trivial) | fail) (by first | (and_intros <;> first | rfl | trivial) | fail) rfl rfl rfl (by (try dsimp only); first | ((show k + 1 ≤ _; omega)) | fail) (show _ < _ by (try dsimp only); omega))
    | (show Go.Ab.CallA _ _ _ _ _ _ _; first
        | refine Call0 (c_spec_l10Has w who hok) rfl rfl ?_
        | refine Call0 (c_spec_l10Holds w who hok (key (by assumption)).1 (key (by assumption)).2) rfl rfl ?_
        | refine CallF (c_spec_l10Own w hl) rfl rfl rfl (Nat.le_of_ble_eq_true rfl) ?_
        | refine Call0 (c_spec_l10Span w who (key (by assumption)).1 (key (by assumption)).2) rfl rfl ?_)
    | refine ix_map_at hx ?_
    | refine ix_map_at hy ?_
    | refine sl_pre (by omega) (fun _ => rfl) ?_
    | refine sl_suf (by omega) (fun _ => rfl) ?_
    | (refine ix_map2 hx (by omega) (by (try simp only [List.length_take]); omega) (fun y hy => ?_); try simp only [Int.toNat_natCast] at hy)
    | (refine ix_map (by omega) (by (try simp only [List.length_take]); omega) (fun x hx => ?_); try simp only [Int.toNat_natCast] at hx)
    | refine side_and (side_of (by first | (and_intros <;> first | exact Nat.le_of_ble_eq_true rfl | rfl | omega | (simp only [List.length_map, List.length_append, List.length_replicate, List.length_take, List.length_cons, List.length_nil, List.length_drop, List.length_set, markList_length, midL_len, mkL_length]; omega) | exact bytes_ok (Nat.le_of_ble_eq_true rfl) (by omega) (by simp only [List.length_map, List.length_append, List.length_replicate, List.length_take, List.length_cons, List.length_nil, List.length_drop, List.length_set, markList_length, midL_len, mkL_length]; omega) | exact bytes_okN (Nat.le_of_ble_eq_true rfl) (by simp only [List.length_map, List.length_append, List.length_replicate, List.length_take, List.length_cons, List.length_nil, List.length_drop, List.length_set, markList_length, midL_len, mkL_length]; omega)) | fail)) ?_
    | refine nilB_intro (fun h => ?_) ?_
    | refine side_and (side_of (show Go.Ab.structOk _ _ = true by kernel_rfl)) ?_
    | refine side_and (side_of (map_len (fun _ => rfl))) ?_
    | refine side_and (side_of (map_one (fun _ => rfl) _)) ?_
    | refine side_and ?_ ?_
    | refine LoadK_of rfl rfl ?_
    | refine LoadD_cel rfl rfl rfl rfl ?_
    | refine LoadD_of rfl ?_
    | refine StoreD_of rfl rfl rfl ?_
    | refine AppD_of rfl (by and_intros <;> first | rfl | decide) (by simp only [List.length_map, List.length_append, List.length_take, List.length_cons, List.length_nil]; first | (refine ⟨by omega, ?_⟩; refine Nat.le_trans (Nat.mul_le_mul_left _ (show _ ≤ 512 by decide)) ?_; omega) | fail) ?_
    | refine AppN_of rfl rfl (by and_intros <;> rfl) (by simp only [List.length_map, List.length_append, List.length_take, List.length_cons, List.length_nil]; first | (refine ⟨by omega, ?_⟩; refine Nat.le_trans (Nat.mul_le_mul_left _ (show _ ≤ 512 by decide)) ?_; omega) | fail) ?_
    | (show False; omega)
  all_goals
    conv => whnf
    first
    | (rw [show (okGive w who) = true from (by first | (simp only [okGive, *, Bool.and_true, Bool.and_false, Bool.true_and, Bool.false_and, Bool.not_true, Bool.not_false] <;> fail) | fail)]; exact OutA_ids rfl rfl rfl ⟨⟨_, _, _, rfl, rfl⟩, ⟨_, _, _, rfl, congrArg (AObj.mk false _ _) (map_all (by omega)).symm⟩, trivial⟩ rfl (.inr watch_flat))
    | (rw [show (okGive w who) = false from (by first | (simp only [okGive, *, Bool.and_true, Bool.and_false, Bool.true_and, Bool.false_and, Bool.not_true, Bool.not_false] <;> fail) | fail)]; exact OutA_nilB 16 1 27 1 1 rfl rfl rfl (by decide) (OutA_nilB 16 2 112 3 2 rfl rfl rfl (by decide) (OutA_ids rfl rfl rfl ⟨⟨_, _, _, rfl, rfl⟩, ⟨_, _, _, rfl, rfl⟩, trivial⟩ rfl (.inr watch_flat))))
end Go.Proofs.Ytgeoghlgpnedfaa
