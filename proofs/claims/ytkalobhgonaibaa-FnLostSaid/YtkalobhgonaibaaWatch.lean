/-
  What the functions on lease tables give.
  No condition.
-/
import Derived.Test.YtkalobhgonaibaaDecide
namespace Go.Proofs.Ytkalobhgonaibaa
open Go.Ab
set_option linter.unusedSimpArgs false
set_option maxRecDepth 20000
set_option linter.unusedVariables false

def okClock (x : ClockT) : Bool := inB (-5) x.Off 5
def okWho (n : Nat) (who : Int) : Bool := inB 0 who (IntKind.i64.wrap ((n : Int) - 1))
def okLease (n : Nat) (l : LeaseT) : Bool := okWho n l.Who && inB (-20) l.From 100020 && inB (-20) l.Until 100200
def okWatch (w : WatchT) : Bool := inB 0 w.True 100000 && (inB 1 w.Clocks.length 5 && w.Clocks.all okClock) && decide ((w.Given.length : Int) ≤ 40) && w.Given.all (okLease w.Clocks.length)

theorem inB_le {a n b : Int} (h : inB a n b = true) : a ≤ n ∧ n ≤ b := by simpa only [inB, Bool.and_eq_true, decide_eq_true_eq] using h
theorem okWho_lt {n : Nat} {who : Int} (h : okWho n who = true) (hn : n ≤ 1048576) : 0 ≤ who ∧ who < n := by
  have := inB_le h
  rw [i64_wrap (by omega) (by omega)] at this
  omega
theorem okWatch_of {w : WatchT} (h : okWatch w = true) : (0 ≤ w.True ∧ w.True ≤ 100000) ∧ (1 ≤ (w.Clocks.length : Int) ∧ (w.Clocks.length : Int) ≤ 5) ∧ (w.Given.length : Int) ≤ 40 ∧ (∀ c ∈ w.Clocks, -5 ≤ c.Off ∧ c.Off ≤ 5) ∧ (∀ l ∈ w.Given, okWho w.Clocks.length l.Who = true ∧ (-20 ≤ l.From ∧ l.From ≤ 100020) ∧ (-20 ≤ l.Until ∧ l.Until ≤ 100200)) := by
  simp only [okWatch, Bool.and_eq_true, decide_eq_true_eq, List.all_eq_true] at h
  obtain ⟨⟨⟨h1, h2, h4⟩, h3⟩, h5⟩ := h
  refine ⟨inB_le h1, inB_le h2, h3, fun c hc => inB_le (h4 c hc), fun l hl => ?_⟩
  have := h5 l hl
  simp only [okLease, Bool.and_eq_true] at this
  exact ⟨this.1.1, inB_le this.1.2, inB_le this.2⟩
theorem c_impl_isTrue (n : Int) : PC Try.prog false 56 [.int .i64 n] (.bool (inB 0 n 100000)) [] := by
  refine pc_at Try.func56 rfl (by kernel_rfl) 5 [.tmp 2] rfl rfl ?_
  repeat' (conv => whnf); first
    | refine nameB_true ?_
    | refine nameB_false ?_
    | refine nameB_yes (by assumption) ?_
    | refine nameB_no (by assumption) ?_
    | refine nameB_dyes (by assumption) ?_
    | refine nameB_dno (by assumption) ?_
    | (refine nameB_dec (fun h => ?_) (fun h => ?_) <;> try simp only [List.length_map, List.length_take, List.length_append, List.length_drop, List.length_set, markList_length, midL_len, mkL_length, Int.toNat_natCast, fact_byte] at h)
    | (refine nameB_cases (fun h => ?_) (fun h => ?_) <;> try simp only [bne_iff_ne, ne_eq, bne_eq_false_iff_eq, beq_iff_eq, beq_eq_false_iff_ne, Bool.not_eq_true', Bool.not_eq_false', Bool.or_eq_true, Bool.or_eq_false_iff, List.length_map, List.length_take, List.length_append, List.length_drop, List.length_set, markList_length, midL_len, mkL_length, Int.toNat_natCast, fact_byte] at h)
    | refine splitB_true ?_
    | refine splitB_false ?_
    | (refine splitB_intro (fun h => ?_) (fun h => ?_) <;> subst h)
    | refine draw_text (by kernel_rfl) (by kernel_rfl) (by kernel_rfl) ?_
    | refine both_intro ?_ ?_
    | refine eitherB_l ?_
    | exact True.intro
    | (show Go.Ab.CallA _ _ _ _ _ _ _; refine Call0 (c_impl_within ..) rfl rfl ?_)
    | refine ix_map_at hx ?_
    | refine ix_map_at hy ?_
    | refine sl_pre (by omega) (fun _ => rfl) ?_
    | refine sl_suf (by omega) (fun _ => rfl) ?_
    | (refine ix_map2 hx (by omega) (by (try simp only [List.length_take]); omega) (fun y hy => ?_); try simp only [Int.toNat_natCast] at hy)
    | (refine ix_map (by omega) (by (try simp only [List.length_take]); omega) (fun x hx => ?_); try simp only [Int.toNat_natCast] at hx)
    | refine side_and (side_of (by first | (and_intros <;> first | exact Nat.le_of_ble_eq_true rfl | rfl | omega | (simp only [List.length_map, List.length_append, List.length_replicate, List.length_take, List.length_cons, List.length_nil, List.length_drop, List.length_set, markList_length, midL_len, mkL_length]; omega) | exact bytes_ok (Nat.le_of_ble_eq_true rfl) (by omega) (by simp only [List.length_map, List.length_append, List.length_replicate, List.length_take, List.length_cons, List.length_nil, List.length_drop, List.length_set, markList_length, midL_len, mkL_length]; omega) | exact bytes_okN (Nat.le_of_ble_eq_true rfl) (by simp only [List.length_map, List.length_append, List.length_replicate, List.length_take, List.length_cons, List.length_nil, List.length_drop, List.length_set, markList_length, midL_len, mkL_length]; omega)) | fail)) ?_
    | refine nilB_intro (fun h => ?_) ?_
    | refine side_and (side_of (show Go.Ab.structOk _ _ = true by kernel_rfl)) ?_
    | refine side_and (side_of (map_len (fun _ => rfl))) ?_
    | refine side_and (side_of (map_one (fun _ => rfl) _)) ?_
    | refine side_and ?_ ?_
    | refine LoadK_of rfl rfl ?_
    | refine LoadD_cel rfl rfl rfl rfl ?_
    | refine LoadD_of rfl ?_
    | refine StoreD_of rfl rfl rfl ?_
    | refine AppD_of rfl (by and_intros <;> first | rfl | decide) (by simp only [List.length_map, List.length_append, List.length_take, List.length_cons, List.length_nil]; first | (refine ⟨by omega, ?_⟩; refine Nat.le_trans (Nat.mul_le_mul_left _ (show _ ≤ 512 by decide)) ?_; omega) | fail) ?_
    | refine AppN_of rfl rfl (by and_intros <;> rfl) (by simp only [List.length_map, List.length_append, List.length_take, List.length_cons, List.length_nil]; first | (refine ⟨by omega, ?_⟩; refine Nat.le_trans (Nat.mul_le_mul_left _ (show _ ≤ 512 by decide)) ?_; omega) | fail) ?_
    | (show False; omega)
  all_goals
    conv => whnf
    refine OutA_plain rfl rfl ?_
    first
    | rfl
    | (simp_all [named, AV.sub, AV.sub.subL]; done)
    | (simp_all [named, AV.sub, AV.sub.subL] <;> omega)
end Go.Proofs.Ytkalobhgonaibaa
