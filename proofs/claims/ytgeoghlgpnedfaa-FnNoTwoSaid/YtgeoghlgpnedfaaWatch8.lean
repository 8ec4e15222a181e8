/-
  What the functions that make a lease table give.
  No condition.
-/
import Derived.Test.YtgeoghlgpnedfaaWatch3
namespace Go.Proofs.Ytgeoghlgpnedfaa
open Go.Ab Go.RowKit
set_option linter.unusedSimpArgs false
set_option maxRecDepth 20000
set_option maxHeartbeats 2000000
set_option linter.unusedVariables false

theorem pc_weak {P : Program} {sh : Bool} {f : Nat} {args args' : List AV} {r : AV} {os : List AObj} (h : PC P sh f args r os) (hw : ∀ w ro vals, LR w ro args' vals → LR w ro args vals) : PC P sh f args' r os :=
  ⟨fun w R vals hR hl => h.run w R vals hR (hw w R vals hl)⟩
theorem nil_sl {w : World} {ro : Nat → Prop} {v : Value} (h : RR w ro .nil v) : RR w ro (.sl []) v := by
  unfold RR at h ⊢
  obtain ⟨base, rfl⟩ := h
  exact ⟨base, 0, rfl, Nat.le_refl _, .inl rfl⟩
theorem nil_last {w : World} {ro : Nat → Prop} {x y : AV} {vals : List Value} (h : LR w ro [.agg [x, y, .nil]] vals) : LR w ro [.agg [x, y, .sl []]] vals := by
  match vals, h with
  | [], h => unfold LR at h; exact h.elim
  | [v], h =>
    unfold LR at h ⊢
    refine ⟨?_, h.2⟩
    have h1 := h.1
    unfold RR at h1 ⊢
    obtain ⟨vs, rfl, h2⟩ := h1
    refine ⟨vs, rfl, ?_⟩
    match hv : vs.toList, h2 with
    | [a, b, c], h2 =>
      unfold LR at h2 ⊢
      refine ⟨h2.1, ?_⟩
      have h3 := h2.2
      unfold LR at h3 ⊢
      refine ⟨h3.1, ?_⟩
      have h4 := h3.2
      unfold LR at h4 ⊢
      exact ⟨nil_sl h4.1, h4.2⟩
    | [], h2 => unfold LR at h2; exact h2.elim
    | [_], h2 => unfold LR at h2; have h3 := h2.2; unfold LR at h3; exact h3.elim
    | [_, _], h2 => unfold LR at h2; have h3 := h2.2; unfold LR at h3; have h4 := h3.2; unfold LR at h4; exact h4.elim
    | _ :: _ :: _ :: _ :: _, h2 => unfold LR at h2; have h3 := h2.2; unfold LR at h3; have h4 := h3.2; unfold LR at h4; have h5 := h4.2; unfold LR at h5; exact h5.elim
  | _ :: _ :: _, h => unfold LR at h; have h2 := h.2; unfold LR at h2; exact h2.elim
def newW (cs : List ClockT) : WatchT := ⟨0, cs, []⟩
theorem new_okk {cs : List ClockT} (hok : okL ClockT.ok cs) : (newW cs).ok := ⟨trivial, hok, ⟨Nat.zero_le _, fun _ h => by cases h⟩⟩
theorem c_impl_NewWatch (cs : List ClockT) (hok : okL ClockT.ok cs) (hl : cs.length ≤ 1048576) : PC Try.prog false 15 [.sl (cs.map ClockT.cells)] (.tup [.agg [.int .i64 (resW (okWatch (newW cs)) (newW cs)).True, .own 0, .own 1], .bool (okWatch (newW cs))]) (watchOs (resW (okWatch (newW cs)) (newW cs)).Clocks (resW (okWatch (newW cs)) (newW cs)).Given) := by
  refine pc_at Try.func15 rfl (by kernel_rfl) 10 [.cell 2 30, .tmp 3] rfl rfl ?_
  repeat' (conv => whnf); first
    | refine nameB_true ?_
    | refine nameB_false ?_
    | refine nameB_yes (by assumption) ?_
    | refine nameB_no (by assumption) ?_
    | refine nameB_dyes (by assumption) ?_
    | refine nameB_dno (by assumption) ?_
    | (refine nameB_dec (fun h => ?_) (fun h => ?_) <;> try simp only [List.length_map, List.length_take, List.length_append, List.length_drop, List.length_set, markList_length, midL_len, mkL_length, Int.toNat_natCast, fact_byte] at h)
    | (refine nameB_cases (fun h => ?_) (fun h => ?_) <;> try simp only [bne_iff_ne, ne_eq, bne_eq_false_iff_eq, beq_iff_eq, beq_eq_false_iff_ne, Bool.not_eq_true', Bool.not_eq_false', Bool.or_eq_true, Bool.or_eq_false_iff, List.length_map, List.length_take, List.length_append, List.length_drop, List.length_set, markList_length, midL_len, mkL_length, Int.toNat_natCast, fact_byte] at h)
    | refine splitB_true ?_
    | refine splitB_false ?_
    | (refine splitB_intro (fun h => ?_) (fun h => ?_) <;> subst h)
    | refine ⟨⟨by kernel_rfl, by kernel_rfl, by kernel_rfl⟩, ?_⟩
    | (show Go.Ab.CallA _ _ _ _ _ _ _; first
        | refine CallF (c_Clone_Clock cs hl) rfl rfl rfl (Nat.le_of_ble_eq_true rfl) ?_
        | refine CallI (nid := 4096 * 1 + 16 * 3) (f := 64) Try.func64 rfl (by kernel_rfl) 1000000 [2] 9 [.cell 2 30, .tmp 3] rfl rfl ?_
        | refine Call0 (pc_weak (c_impl_GoodWatch (newW cs) (new_okk hok)) (fun w ro vals h => nil_last h)) rfl rfl ?_)
    | (show Go.Ab.RetI _ _ _ _ _ _ _ _; refine RetI_of rfl ?_)
    | refine ix_map_at hx ?_
    | refine ix_map_at hy ?_
    | refine sl_pre (by omega) (fun _ => rfl) ?_
    | refine sl_suf (by omega) (fun _ => rfl) ?_
    | (refine ix_map2 hx (by omega) (by (try simp only [List.length_take]); omega) (fun y hy => ?_); try simp only [Int.toNat_natCast] at hy)
    | (refine ix_map (by omega) (by (try simp only [List.length_take]); omega) (fun x hx => ?_); try simp only [Int.toNat_natCast] at hx)
    | refine side_and (side_of (by first | (and_intros <;> first | exact Nat.le_of_ble_eq_true rfl | rfl | omega | (simp only [List.length_map, List.length_append, List.length_replicate, List.length_take, List.length_cons, List.length_nil, List.length_drop, List.length_set, markList_length, midL_len, mkL_length]; omega) | exact bytes_ok (Nat.le_of_ble_eq_true rfl) (by omega) (by simp only [List.length_map, List.length_append, List.length_replicate, List.length_take, List.length_cons, List.length_nil, List.length_drop, List.length_set, markList_length, midL_len, mkL_length]; omega) | exact bytes_okN (Nat.le_of_ble_eq_true rfl) (by simp only [List.length_map, List.length_append, List.length_replicate, List.length_take, List.length_cons, List.length_nil, List.length_drop, List.length_set, markList_length, midL_len, mkL_length]; omega)) | fail)) ?_
    | refine nilB_intro (fun h => ?_) ?_
    | refine side_and (side_of (show Go.Ab.structOk _ _ = true by kernel_rfl)) ?_
    | refine side_and (side_of (map_len (fun _ => rfl))) ?_
    | refine side_and (side_of (map_one (fun _ => rfl) _)) ?_
    | refine side_and ?_ ?_
    | refine LoadK_of rfl rfl ?_
    | refine LoadD_cel rfl rfl rfl rfl ?_
    | refine LoadD_of rfl ?_
    | refine StoreD_of rfl rfl rfl ?_
    | refine AppD_of rfl (by and_intros <;> first | rfl | decide) (by simp only [List.length_map, List.length_append, List.length_take, List.length_cons, List.length_nil]; first | (refine ⟨by omega, ?_⟩; refine Nat.le_trans (Nat.mul_le_mul_left _ (show _ ≤ 512 by decide)) ?_; omega) | fail) ?_
    | refine AppN_of rfl rfl (by and_intros <;> rfl) (by simp only [List.length_map, List.length_append, List.length_take, List.length_cons, List.length_nil]; first | (refine ⟨by omega, ?_⟩; refine Nat.le_trans (Nat.mul_le_mul_left _ (show _ ≤ 512 by decide)) ?_; omega) | fail) ?_
    | (show False; omega)
  all_goals
    conv => whnf
    first
    | (rw [show okWatch (newW cs) = true by assumption]; exact OutA_nilB 0 2 112 3 2 rfl rfl rfl (by decide) (OutA_ids rfl rfl rfl ⟨⟨_, _, _, rfl, rfl⟩, ⟨_, _, _, rfl, rfl⟩, trivial⟩ rfl (.inr watch_flat)))
    | (rw [show okWatch (newW cs) = false by assumption]; exact OutA_nilB 0 1 27 1 1 rfl rfl rfl (by decide) (OutA_nilB 0 2 112 3 2 rfl rfl rfl (by decide) (OutA_ids rfl rfl rfl ⟨⟨_, _, _, rfl, rfl⟩, ⟨_, _, _, rfl, rfl⟩, trivial⟩ rfl (.inr watch_flat))))
theorem c_spec_NewWatch (cs : List ClockT) (hok : okL ClockT.ok cs) (hl : cs.length ≤ 1048576) : PC Try.prog false 16 [.sl (cs.map ClockT.cells)] (.tup [.agg [.int .i64 (resW (okWatch (newW cs)) (newW cs)).True, .own 0, .own 1], .bool (okWatch (newW cs))]) (watchOs (resW (okWatch (newW cs)) (newW cs)).Clocks (resW (okWatch (newW cs)) (newW cs)).Given) := by
  refine pc_at Try.func16 rfl (by kernel_rfl) 10 [.cell 2 30, .tmp 3] rfl rfl ?_
  repeat' (conv => whnf); first
    | refine nameB_true ?_
    | refine nameB_false ?_
    | refine nameB_yes (by assumption) ?_
    | refine nameB_no (by assumption) ?_
    | refine nameB_dyes (by assumption) ?_
    | refine nameB_dno (by assumption) ?_
    | (refine nameB_dec (fun h => ?_) (fun h => ?_) <;> try simp only [List.length_map, List.length_take, List.length_append, List.length_drop, List.length_set, markList_length, midL_len, mkL_length, Int.toNat_natCast, fact_byte] at h)
    | (refine nameB_cases (fun h => ?_) (fun h => ?_) <;> try simp only [bne_iff_ne, ne_eq, bne_eq_false_iff_eq, beq_iff_eq, beq_eq_false_iff_ne, Bool.not_eq_true', Bool.not_eq_false', Bool.or_eq_true, Bool.or_eq_false_iff, List.length_map, List.length_take, List.length_append, List.length_drop, List.length_set, markList_length, midL_len, mkL_length, Int.toNat_natCast, fact_byte] at h)
    | refine splitB_true ?_
    | refine splitB_false ?_
    | (refine splitB_intro (fun h => ?_) (fun h => ?_) <;> subst h)
    | refine ⟨⟨by kernel_rfl, by kernel_rfl, by kernel_rfl⟩, ?_⟩
    | (show Go.Ab.CallA _ _ _ _ _ _ _; first
        | refine CallF (pc_weak (c_spec_l10Own (newW cs) (show cs.length + 0 ≤ 1048576 by omega)) (fun w ro vals h => nil_last h)) rfl rfl rfl (Nat.le_of_ble_eq_true rfl) ?_
        | refine CallI (nid := 4096 * 1 + 16 * 3) (f := 66) Try.func66 rfl (by kernel_rfl) 1000000 [2] 9 [.cell 2 30, .tmp 3] rfl rfl ?_
        | refine Call0 (c_spec_l10Good (newW cs) (new_okk hok)) rfl rfl ?_)
    | (show Go.Ab.RetI _ _ _ _ _ _ _ _; refine RetI_of rfl ?_)
    | refine ix_map_at hx ?_
    | refine ix_map_at hy ?_
    | refine sl_pre (by omega) (fun _ => rfl) ?_
    | refine sl_suf (by omega) (fun _ => rfl) ?_
    | (refine ix_map2 hx (by omega) (by (try simp only [List.length_take]); omega) (fun y hy => ?_); try simp only [Int.toNat_natCast] at hy)
    | (refine ix_map (by omega) (by (try simp only [List.length_take]); omega) (fun x hx => ?_); try simp only [Int.toNat_natCast] at hx)
    | refine side_and (side_of (by first | (and_intros <;> first | exact Nat.le_of_ble_eq_true rfl | rfl | omega | (simp only [List.length_map, List.length_append, List.length_replicate, List.length_take, List.length_cons, List.length_nil, List.length_drop, List.length_set, markList_length, midL_len, mkL_length]; omega) | exact bytes_ok (Nat.le_of_ble_eq_true rfl) (by omega) (by simp only [List.length_map, List.length_append, List.length_replicate, List.length_take, List.length_cons, List.length_nil, List.length_drop, List.length_set, markList_length, midL_len, mkL_length]; omega) | exact bytes_okN (Nat.le_of_ble_eq_true rfl) (by simp only [List.length_map, List.length_append, List.length_replicate, List.length_take, List.length_cons, List.length_nil, List.length_drop, List.length_set, markList_length, midL_len, mkL_length]; omega)) | fail)) ?_
    | refine nilB_intro (fun h => ?_) ?_
    | refine side_and (side_of (show Go.Ab.structOk _ _ = true by kernel_rfl)) ?_
    | refine side_and (side_of (map_len (fun _ => rfl))) ?_
    | refine side_and (side_of (map_one (fun _ => rfl) _)) ?_
    | refine side_and ?_ ?_
    | refine LoadK_of rfl rfl ?_
    | refine LoadD_cel rfl rfl rfl rfl ?_
    | refine LoadD_of rfl ?_
    | refine StoreD_of rfl rfl rfl ?_
    | refine AppD_of rfl (by and_intros <;> first | rfl | decide) (by simp only [List.length_map, List.length_append, List.length_take, List.length_cons, List.length_nil]; first | (refine ⟨by omega, ?_⟩; refine Nat.le_trans (Nat.mul_le_mul_left _ (show _ ≤ 512 by decide)) ?_; omega) | fail) ?_
    | refine AppN_of rfl rfl (by and_intros <;> rfl) (by simp only [List.length_map, List.length_append, List.length_take, List.length_cons, List.length_nil]; first | (refine ⟨by omega, ?_⟩; refine Nat.le_trans (Nat.mul_le_mul_left _ (show _ ≤ 512 by decide)) ?_; omega) | fail) ?_
    | (show False; omega)
  all_goals
    conv => whnf
    first
    | (rw [show okWatch (newW cs) = true by assumption]; exact OutA_ids rfl rfl rfl ⟨⟨_, _, _, rfl, rfl⟩, ⟨_, _, _, rfl, rfl⟩, trivial⟩ rfl (.inr watch_flat))
    | (rw [show okWatch (newW cs) = false by assumption]; exact OutA_nilB 0 1 27 1 1 rfl rfl rfl (by decide) (OutA_nilB 0 2 112 3 2 rfl rfl rfl (by decide) (OutA_ids rfl rfl rfl ⟨⟨_, _, _, rfl, rfl⟩, ⟨_, _, _, rfl, rfl⟩, trivial⟩ rfl (.inr watch_flat))))
theorem zero_ok2 : (⟨0, [], []⟩ : WatchT).ok := ⟨trivial, ⟨Nat.zero_le _, fun _ h => by cases h⟩, ⟨Nat.zero_le _, fun _ h => by cases h⟩⟩
end Go.Proofs.Ytgeoghlgpnedfaa
