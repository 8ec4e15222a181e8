/-
  What the functions that wait for locks give.
  No condition.
-/
import Derived.Test.YtpbabdnbbpgejaaLocks
import Derived.Test.YtpbabdnbbpgejaaLays
import Derived.Test.YtpbabdnbbpgejaaSorts
namespace Go.Proofs.Ytpbabdnbbpgejaa
open Go.Ab
set_option linter.unusedSimpArgs false
set_option maxRecDepth 20000
set_option maxHeartbeats 4000000
set_option linter.unusedVariables false

theorem filT_yes {α β : Type} {p : α → Bool} {f : α → β} {C : β → List AV} {xs : List α} {k : Nat} {x : α} {L : List (List AV)} (hx : xs[k]? = some x) (hp : p x = true) (hL : L = [C (f x)]) : (((xs.take k).filter p).map f).map C ++ L = (((xs.take (k + 1)).filter p).map f).map C := by
  rw [hL, take_get hx, List.filter_append, List.map_append, List.map_append]
  simp [hp]
theorem filT_no {α β : Type} {p : α → Bool} {f : α → β} {C : β → List AV} {xs : List α} {k : Nat} {x : α} (hx : xs[k]? = some x) (hp : p x = false) : (((xs.take k).filter p).map f).map C = (((xs.take (k + 1)).filter p).map f).map C := by
  rw [take_get hx, List.filter_append]
  simp [hp]
def waitL (l : List LockT) (x : LockT) : List Int := (l.filter (confl x)).map LockT.Txn
theorem waitL_len {l : List LockT} {x : LockT} : (waitL l x).length ≤ l.length := by
  unfold waitL
  rw [List.length_map]
  exact List.length_filter_le _ _
theorem c_impl_waitsFor (l : List LockT) (x : LockT) (hl : l.length ≤ 1048576) : PC Try.prog false 92 [.sl (l.map LockT.cells), .agg x.cells] (.own 0) [⟨false, 3, 1, (sortI (waitL l x)).map intC⟩] := by
  refine pc_at Try.func92 rfl (by kernel_rfl) 27 [.tmp 4] rfl rfl ?_
  repeat' (conv => whnf); first
    | (refine ix_as (m := k) rfl (by omega) (fun y hy => ?_))
    | refine nameB_self (b := x.Write) ?_
    | refine nameB_self (b := y.Write) ?_
    | (refine nameB_cases (b := confl x y) (fun h => ?_) (fun h => ?_))
    | refine side_and (side_of (one_lenC rfl rfl)) ?_
    | refine side_and (side_of (by first | (and_intros <;> first | exact Nat.le_of_ble_eq_true rfl | rfl | (intro e; exact absurd (AV.own.inj e) (by decide)) | (intro e; exact AV.noConfusion e)) | fail)) ?_
    | refine side_and (side_of (app_boundC (L := (((l.take k).filter (confl x)).map LockT.Txn).map intC) rfl (by have hf := List.length_filter_le (confl x) (l.take k); simp only [List.length_map, List.length_take] at hf ⊢; omega) (Nat.le_of_ble_eq_true rfl))) ?_
    | refine nameB_true ?_
    | refine nameB_false ?_
    | refine nameB_yes (by assumption) ?_
    | refine nameB_no (by assumption) ?_
    | refine nameB_dyes (by assumption) ?_
    | refine nameB_dno (by assumption) ?_
    | (refine nameB_dec (fun h => ?_) (fun h => ?_) <;> try simp only [List.length_map, List.length_take, List.length_append, List.length_drop, List.length_set, markList_length, midL_len, mkL_length, Int.toNat_natCast, fact_byte] at h)
    | (refine nameB_cases (fun h => ?_) (fun h => ?_) <;> try simp only [bne_iff_ne, ne_eq, bne_eq_false_iff_eq, beq_iff_eq, beq_eq_false_iff_ne, Bool.not_eq_true', Bool.not_eq_false', Bool.or_eq_true, Bool.or_eq_false_iff, List.length_map, List.length_take, List.length_append, List.length_drop, List.length_set, markList_length, midL_len, mkL_length, Int.toNat_natCast, fact_byte] at h)
    | refine splitB_true ?_
    | refine splitB_false ?_
    | (refine splitB_intro (fun h => ?_) (fun h => ?_) <;> subst h)
    | refine ⟨⟨by kernel_rfl, by kernel_rfl, by kernel_rfl⟩, ?_⟩
    | (show Go.Ab.Loop _ _ _; (refine Loop_nil 5 1 3 1 rfl rfl (by decide) ?_; refine Loop_at [3, 9, 10] [0] (Nat) (fun k => k ≤ l.length) (fun k => [(11, .int .i64 (k : Nat)), (5, .own 1)]) (fun k => [(1, ⟨false, 3, 1, (((l.take k).filter (confl x)).map LockT.Txn).map intC⟩)]) (fun k => l.length - k) 0 ⟨by first | (simp_all <;> fail) | rfl | fail, by first | rfl | (simp_all <;> fail) | fail, trivial⟩ ⟨by first | rfl | first | exact congrArg (fun e => some (AObj.mk false _ _ e)) (filT_yes (p := confl x) (f := LockT.Txn) (C := intC) hy (by assumption) rfl) | exact congrArg (fun e => some (AObj.mk false _ _ e)) (filT_no (p := confl x) (f := LockT.Txn) (C := intC) hy (by assumption)) | fail | fail, trivial⟩ (by (try dsimp only); first | (exact Nat.zero_le _) | fail) ?_; (conv => whnf); refine side_and (side_of (by first | exact fun k => rfl | exact fun k => by simp [headOk, closedE, closedO, closedL, AV.closed, hcap.closed])) ?_; rintro k hT; try dsimp only at hT))
    | (show Go.Ab.Again _ _ _ _ _ _ _ _ _ _ _; refine Again_of (k + 1) ⟨by first | rfl | exact i64_next (by omega) | (simp_all <;> fail) | fail, by first | rfl | (simp_all <;> fail) | fail, trivial⟩ ⟨by first | rfl | first | exact congrArg (fun e => some (AObj.mk false _ _ e)) (filT_yes (p := confl x) (f := LockT.Txn) (C := intC) hy (by assumption) rfl) | exact congrArg (fun e => some (AObj.mk false _ _ e)) (filT_no (p := confl x) (f := LockT.Txn) (C := intC) hy (by assumption)) | fail | fail, trivial⟩ (by first | (and_intros <;> first | rfl | trivial) | fail) (by first | (and_intros <;> first | rfl | trivial) | fail) rfl rfl rfl (by (try dsimp only); first | ((show k + 1 ≤ _; omega)) | fail) (show _ < _ by (try dsimp only); omega))
    | (show Go.Ab.CallA _ _ _ _ _ _ _; refine Call0 (c_impl_conflict x y) rfl rfl ?_)
    | refine ix_map_at hx ?_
    | refine ix_map_at hy ?_
    | refine sl_pre (by omega) (fun _ => rfl) ?_
    | refine sl_suf (by omega) (fun _ => rfl) ?_
    | (refine ix_map2 hx (by omega) (by (try simp only [List.length_take]); omega) (fun y hy => ?_); try simp only [Int.toNat_natCast] at hy)
    | (refine ix_map (by omega) (by (try simp only [List.length_take]); omega) (fun x hx => ?_); try simp only [Int.toNat_natCast] at hx)
    | refine side_and (side_of (by first | (and_intros <;> first | exact Nat.le_of_ble_eq_true rfl | rfl | omega | (simp only [List.length_map, List.length_append, List.length_replicate, List.length_take, List.length_cons, List.length_nil, List.length_drop, List.length_set, markList_length, midL_len, mkL_length]; omega) | exact bytes_ok (Nat.le_of_ble_eq_true rfl) (by omega) (by simp only [List.length_map, List.length_append, List.length_replicate, List.length_take, List.length_cons, List.length_nil, List.length_drop, List.length_set, markList_length, midL_len, mkL_length]; omega) | exact bytes_okN (Nat.le_of_ble_eq_true rfl) (by simp only [List.length_map, List.length_append, List.length_replicate, List.length_take, List.length_cons, List.length_nil, List.length_drop, List.length_set, markList_length, midL_len, mkL_length]; omega)) | fail)) ?_
    | refine nilB_intro (fun h => ?_) ?_
    | refine side_and (side_of (show Go.Ab.structOk _ _ = true by kernel_rfl)) ?_
    | refine side_and (side_of (map_len (fun _ => rfl))) ?_
    | refine side_and (side_of (map_one (fun _ => rfl) _)) ?_
    | refine side_and ?_ ?_
    | refine LoadK_of rfl rfl ?_
    | refine LoadD_cel rfl rfl rfl rfl ?_
    | refine LoadD_of rfl ?_
    | refine StoreD_of rfl rfl rfl ?_
    | refine AppD_of rfl (by and_intros <;> first | rfl | decide) (by simp only [List.length_map, List.length_append, List.length_take, List.length_cons, List.length_nil]; first | (refine ⟨by omega, ?_⟩; refine Nat.le_trans (Nat.mul_le_mul_left _ (show _ ≤ 512 by decide)) ?_; omega) | fail) ?_
    | refine AppN_of rfl rfl (by and_intros <;> rfl) (by simp only [List.length_map, List.length_append, List.length_take, List.length_cons, List.length_nil]; first | (refine ⟨by omega, ?_⟩; refine Nat.le_trans (Nat.mul_le_mul_left _ (show _ ≤ 512 by decide)) ?_; omega) | fail) ?_
    | refine CallSortI Try.func135 (by kernel_rfl) rfl Try.slices_Sort_int Try.slices_Sort_int_none (ss := waitL l x) (by have := waitL_len (l := l) (x := x); omega) (congrArg (fun e => some (AObj.mk false _ _ e)) (by rw [List.take_of_length_le (by omega)]; rfl)) ?_
    | (show False; omega)
  all_goals
    conv => whnf
    exact OutA_ids rfl rfl rfl ⟨⟨_, _, _, rfl, rfl⟩, trivial⟩ rfl (.inr (flat_one (flat_map (fun _ => rfl) _)))
theorem put_cellsI {l : List Int} {n : Int} {k : Nat} {L : List (List AV)} (hp : putI l n = l.take k ++ [n] ++ l.drop k) (hL : L = [intC n]) : ((l.take k).map intC ++ L) ++ (l.drop k).map intC = (putI l n).map intC := by
  rw [hp, hL]; simp
theorem c_spec_l1Put (l : List Int) (n : Int) (hl : l.length ≤ 1048576) : PC Try.prog true 121 [.sl (l.map intC), .int .i64 n] (.sl ((putI l n).map intC)) [] := by
  refine pc_at Try.func121 rfl (by kernel_rfl) 48 [.tmp 4] rfl rfl ?_
  repeat' (conv => whnf); first
    | refine ix_at (m := k) rfl hy ?_
    | refine ix_as (m := k) rfl (by omega) (fun y hy => ?_)
    | refine sl_pre (m := k) (by omega) (fun _ => rfl) ?_
    | refine sl_suf (m := k) (by omega) (fun _ => rfl) ?_
    | refine side_and (side_of (by first | (and_intros <;> first | exact Nat.le_of_ble_eq_true rfl | rfl | (intro e; exact absurd (AV.own.inj e) (by decide)) | (intro e; exact AV.noConfusion e)) | fail)) ?_
    | refine side_and (side_of (app_bound2 (L := []) (M := (l.take k).map intC) (by (try simp only [List.length_map, List.length_append, List.length_take, List.length_set, List.length_drop, List.length_cons, List.length_nil]); omega) (Nat.le_of_ble_eq_true rfl))) ?_
    | refine side_and (side_of (one_lenC rfl rfl)) ?_
    | refine side_and (side_of (by first | (and_intros <;> first | exact Nat.le_of_ble_eq_true rfl | rfl | (intro e; exact absurd (AV.own.inj e) (by decide)) | (intro e; exact AV.noConfusion e)) | fail)) ?_
    | refine side_and (side_of (app_boundC (L := (l.take k).map intC) rfl (by (try simp only [List.length_map, List.length_append, List.length_take, List.length_set, List.length_drop]); omega) (Nat.le_of_ble_eq_true rfl))) ?_
    | refine side_and (side_of (app_bound2 (L := (l.take k).map intC ++ [intC n]) (M := (l.drop k).map intC) (by (try simp only [List.length_map, List.length_append, List.length_take, List.length_set, List.length_drop, List.length_cons, List.length_nil]); omega) (Nat.le_of_ble_eq_true rfl))) ?_
    | refine nameB_true ?_
    | refine nameB_false ?_
    | refine nameB_yes (by assumption) ?_
    | refine nameB_no (by assumption) ?_
    | refine nameB_dyes (by assumption) ?_
    | refine nameB_dno (by assumption) ?_
    | (refine nameB_dec (fun h => ?_) (fun h => ?_) <;> try simp only [List.length_map, List.length_take, List.length_append, List.length_drop, List.length_set, markList_length, midL_len, mkL_length, Int.toNat_natCast, fact_byte] at h)
    | (refine nameB_cases (fun h => ?_) (fun h => ?_) <;> try simp only [bne_iff_ne, ne_eq, bne_eq_false_iff_eq, beq_iff_eq, beq_eq_false_iff_ne, Bool.not_eq_true', Bool.not_eq_false', Bool.or_eq_true, Bool.or_eq_false_iff, List.length_map, List.length_take, List.length_append, List.length_drop, List.length_set, markList_length, midL_len, mkL_length, Int.toNat_natCast, fact_byte] at h)
    | refine splitB_true ?_
    | refine splitB_false ?_
    | (refine splitB_intro (fun h => ?_) (fun h => ?_) <;> subst h)
    | refine ⟨⟨by kernel_rfl, by kernel_rfl, by kernel_rfl⟩, ?_⟩
    | (show Go.Ab.Loop _ _ _; (refine Loop_at [0, 1] [] (Nat) (fun k => k + cntI n (l.drop k) = cntI n l ∧ k ≤ l.length) (fun k => [(5, .int .i64 (k : Nat))]) (fun k => []) (fun k => l.length - k) 0 ⟨by first | (simp_all <;> fail) | rfl | fail, trivial⟩ trivial (by (try dsimp only); first | (exact ⟨by simp, Nat.zero_le _⟩) | fail) ?_; (conv => whnf); refine side_and (side_of (by first | exact fun k => rfl | exact fun k => by simp [headOk, closedE, closedO, closedL, AV.closed, hcap.closed])) ?_; rintro k hT; try dsimp only at hT))
    | (show Go.Ab.Again _ _ _ _ _ _ _ _ _ _ _; refine Again_of (k + 1) ⟨by first | rfl | exact i64_next (by omega) | (simp_all <;> fail) | fail, trivial⟩ trivial (by first | (and_intros <;> first | rfl | trivial) | fail) (by first | (and_intros <;> first | rfl | trivial) | fail) rfl rfl rfl (by (try dsimp only); first | (exact ⟨cnt_go hT.1 hy (by omega), by omega⟩) | fail) (show _ < _ by (try dsimp only); omega))
    | refine ix_map_at hx ?_
    | refine ix_map_at hy ?_
    | refine sl_pre (by omega) (fun _ => rfl) ?_
    | refine sl_suf (by omega) (fun _ => rfl) ?_
    | (refine ix_map2 hx (by omega) (by (try simp only [List.length_take]); omega) (fun y hy => ?_); try simp only [Int.toNat_natCast] at hy)
    | (refine ix_map (by omega) (by (try simp only [List.length_take]); omega) (fun x hx => ?_); try simp only [Int.toNat_natCast] at hx)
    | refine side_and (side_of (by first | (and_intros <;> first | exact Nat.le_of_ble_eq_true rfl | rfl | omega | (simp only [List.length_map, List.length_append, List.length_replicate, List.length_take, List.length_cons, List.length_nil, List.length_drop, List.length_set, markList_length, midL_len, mkL_length]; omega) | exact bytes_ok (Nat.le_of_ble_eq_true rfl) (by omega) (by simp only [List.length_map, List.length_append, List.length_replicate, List.length_take, List.length_cons, List.length_nil, List.length_drop, List.length_set, markList_length, midL_len, mkL_length]; omega) | exact bytes_okN (Nat.le_of_ble_eq_true rfl) (by simp only [List.length_map, List.length_append, List.length_replicate, List.length_take, List.length_cons, List.length_nil, List.length_drop, List.length_set, markList_length, midL_len, mkL_length]; omega)) | fail)) ?_
    | refine nilB_intro (fun h => ?_) ?_
    | refine side_and (side_of (show Go.Ab.structOk _ _ = true by kernel_rfl)) ?_
    | refine side_and (side_of (map_len (fun _ => rfl))) ?_
    | refine side_and (side_of (map_one (fun _ => rfl) _)) ?_
    | refine side_and ?_ ?_
    | refine LoadK_of rfl rfl ?_
    | refine LoadD_cel rfl rfl rfl rfl ?_
    | refine LoadD_of rfl ?_
    | refine StoreD_of rfl rfl rfl ?_
    | refine AppD_of rfl (by and_intros <;> first | rfl | decide) (by simp only [List.length_map, List.length_append, List.length_take, List.length_cons, List.length_nil]; first | (refine ⟨by omega, ?_⟩; refine Nat.le_trans (Nat.mul_le_mul_left _ (show _ ≤ 512 by decide)) ?_; omega) | fail) ?_
    | refine AppN_of rfl rfl (by and_intros <;> rfl) (by simp only [List.length_map, List.length_append, List.length_take, List.length_cons, List.length_nil]; first | (refine ⟨by omega, ?_⟩; refine Nat.le_trans (Nat.mul_le_mul_left _ (show _ ≤ 512 by decide)) ?_; omega) | fail) ?_
    | (show False; omega)
  all_goals
    conv => whnf
    first
    | (refine OutA_plain rfl rfl ?_; exact congrArg (fun l : List Int => AV.sl (l.map intC)) (putI_same (cnt_stop hT.1 hy (by omega)) hy (by assumption)).symm)
    | (refine OutA_frz [24640] ?_; (conv => whnf); refine OutA_plain rfl rfl ?_; exact congrArg AV.sl (put_cellsI (putI_new (by first | exact (cnt_end hT.1 (by assumption)) | exact (cnt_stop hT.1 hy (by omega))) (by first | exact .inl (by assumption) | exact .inr ⟨_, hy, by assumption⟩)) rfl))
def waitS (l : List LockT) (x : LockT) : List Int := (waitL l x).foldl putI []
theorem waitL_yes {l : List LockT} {x y : LockT} {k : Nat} (hy : l[k]? = some y) (h : confl x y = true) : waitL (l.take (k + 1)) x = waitL (l.take k) x ++ [y.Txn] := by
  unfold waitL
  rw [take_get hy, List.filter_append, List.map_append]
  simp [h]
theorem waitL_no {l : List LockT} {x y : LockT} {k : Nat} (hy : l[k]? = some y) (h : confl x y = false) : waitL (l.take (k + 1)) x = waitL (l.take k) x := by
  unfold waitL
  rw [take_get hy, List.filter_append, List.map_append]
  simp [h]
theorem waitS_yes {l : List LockT} {x y : LockT} {k : Nat} (hy : l[k]? = some y) (h : confl x y = true) : putI ((waitL (l.take k) x).foldl putI []) y.Txn = (waitL (l.take (k + 1)) x).foldl putI [] := by
  rw [waitL_yes hy h, List.foldl_append]; rfl
theorem waitS_no {l : List LockT} {x y : LockT} {k : Nat} (hy : l[k]? = some y) (h : confl x y = false) : (waitL (l.take k) x).foldl putI [] = (waitL (l.take (k + 1)) x).foldl putI [] := by
  rw [waitL_no hy h]
theorem waitS_len {l : List LockT} {x : LockT} {k : Nat} : ((waitL (l.take k) x).foldl putI []).length ≤ l.length := by
  have h1 := foldI_len (waitL (l.take k) x) []
  have h2 := waitL_len (l := l.take k) (x := x)
  simp only [List.length_take, List.length_nil] at h1 h2
  omega
theorem c_spec_l12Waits (l : List LockT) (x : LockT) (hl : l.length ≤ 1048576) : PC Try.prog true 77 [.sl (l.map LockT.cells), .agg x.cells] (.sl ((waitS l x).map intC)) [] := by
  refine pc_at Try.func77 rfl (by kernel_rfl) 23 [.tmp 4] rfl rfl ?_
  repeat' (conv => whnf); first
    | refine ix_at (m := k) rfl hy ?_
    | (refine ix_as (m := k) rfl (by omega) (fun y hy => ?_))
    | refine nameB_self (b := x.Write) ?_
    | refine nameB_self (b := y.Write) ?_
    | (refine nameB_cases (b := confl x y) (fun h => ?_) (fun h => ?_))
    | refine nameB_true ?_
    | refine nameB_false ?_
    | refine nameB_yes (by assumption) ?_
    | refine nameB_no (by assumption) ?_
    | refine nameB_dyes (by assumption) ?_
    | refine nameB_dno (by assumption) ?_
    | (refine nameB_dec (fun h => ?_) (fun h => ?_) <;> try simp only [List.length_map, List.length_take, List.length_append, List.length_drop, List.length_set, markList_length, midL_len, mkL_length, Int.toNat_natCast, fact_byte] at h)
    | (refine nameB_cases (fun h => ?_) (fun h => ?_) <;> try simp only [bne_iff_ne, ne_eq, bne_eq_false_iff_eq, beq_iff_eq, beq_eq_false_iff_ne, Bool.not_eq_true', Bool.not_eq_false', Bool.or_eq_true, Bool.or_eq_false_iff, List.length_map, List.length_take, List.length_append, List.length_drop, List.length_set, markList_length, midL_len, mkL_length, Int.toNat_natCast, fact_byte] at h)
    | refine splitB_true ?_
    | refine splitB_false ?_
    | (refine splitB_intro (fun h => ?_) (fun h => ?_) <;> subst h)
    | refine ⟨⟨by kernel_rfl, by kernel_rfl, by kernel_rfl⟩, ?_⟩
    | (show Go.Ab.Loop _ _ _; (refine Loop_nilS 5 rfl ?_; refine Loop_at [3, 8, 9] [0] (Nat) (fun k => k ≤ l.length) (fun k => [(10, .int .i64 (k : Nat)), (5, .sl (((waitL (l.take k) x).foldl putI []).map intC))]) (fun k => []) (fun k => l.length - k) 0 ⟨by first | first | exact congrArg (fun l : List Int => AV.sl (l.map intC)) (waitS_yes hy (by assumption)) | exact congrArg (fun l : List Int => AV.sl (l.map intC)) (waitS_no hy (by assumption)) | rfl | fail, by first | rfl | first | exact congrArg (fun l : List Int => AV.sl (l.map intC)) (waitS_yes hy (by assumption)) | exact congrArg (fun l : List Int => AV.sl (l.map intC)) (waitS_no hy (by assumption)) | fail, trivial⟩ trivial (by (try dsimp only); first | (exact Nat.zero_le _) | fail) ?_; (conv => whnf); refine side_and (side_of (by first | exact fun k => rfl | exact fun k => by simp [headOk, closedE, closedO, closedL, AV.closed, hcap.closed])) ?_; rintro k hT; try dsimp only at hT))
    | (show Go.Ab.Again _ _ _ _ _ _ _ _ _ _ _; refine Again_of (k + 1) ⟨by first | rfl | exact i64_next (by omega) | first | exact congrArg (fun l : List Int => AV.sl (l.map intC)) (waitS_yes hy (by assumption)) | exact congrArg (fun l : List Int => AV.sl (l.map intC)) (waitS_no hy (by assumption)) | fail, by first | rfl | first | exact congrArg (fun l : List Int => AV.sl (l.map intC)) (waitS_yes hy (by assumption)) | exact congrArg (fun l : List Int => AV.sl (l.map intC)) (waitS_no hy (by assumption)) | fail, trivial⟩ trivial (by first | (and_intros <;> first | rfl | trivial) | fail) (by first | (and_intros <;> first | rfl | trivial) | fail) rfl rfl rfl (by (try dsimp only); first | ((show k + 1 ≤ _; omega)) | fail) (show _ < _ by (try dsimp only); omega))
    | (show Go.Ab.CallA _ _ _ _ _ _ _; first
        | refine Call0 (c_spec_l12Clash x y) rfl rfl ?_
        | refine CallT (c_spec_l1Put ((waitL (l.take k) x).foldl putI []) y.Txn (by have := waitS_len (l := l) (x := x) (k := k); omega)) rfl rfl rfl rfl (Nat.le_of_ble_eq_true rfl) ?_)
    | refine ix_map_at hx ?_
    | refine ix_map_at hy ?_
    | refine sl_pre (by omega) (fun _ => rfl) ?_
    | refine sl_suf (by omega) (fun _ => rfl) ?_
    | (refine ix_map2 hx (by omega) (by (try simp only [List.length_take]); omega) (fun y hy => ?_); try simp only [Int.toNat_natCast] at hy)
    | (refine ix_map (by omega) (by (try simp only [List.length_take]); omega) (fun x hx => ?_); try simp only [Int.toNat_natCast] at hx)
    | refine side_and (side_of (by first | (and_intros <;> first | exact Nat.le_of_ble_eq_true rfl | rfl | omega | (simp only [List.length_map, List.length_append, List.length_replicate, List.length_take, List.length_cons, List.length_nil, List.length_drop, List.length_set, markList_length, midL_len, mkL_length]; omega) | exact bytes_ok (Nat.le_of_ble_eq_true rfl) (by omega) (by simp only [List.length_map, List.length_append, List.length_replicate, List.length_take, List.length_cons, List.length_nil, List.length_drop, List.length_set, markList_length, midL_len, mkL_length]; omega) | exact bytes_okN (Nat.le_of_ble_eq_true rfl) (by simp only [List.length_map, List.length_append, List.length_replicate, List.length_take, List.length_cons, List.length_nil, List.length_drop, List.length_set, markList_length, midL_len, mkL_length]; omega)) | fail)) ?_
    | refine nilB_intro (fun h => ?_) ?_
    | refine side_and (side_of (show Go.Ab.structOk _ _ = true by kernel_rfl)) ?_
    | refine side_and (side_of (map_len (fun _ => rfl))) ?_
    | refine side_and (side_of (map_one (fun _ => rfl) _)) ?_
    | refine side_and ?_ ?_
    | refine LoadK_of rfl rfl ?_
    | refine LoadD_cel rfl rfl rfl rfl ?_
    | refine LoadD_of rfl ?_
    | refine StoreD_of rfl rfl rfl ?_
    | refine AppD_of rfl (by and_intros <;> first | rfl | decide) (by simp only [List.length_map, List.length_append, List.length_take, List.length_cons, List.length_nil]; first | (refine ⟨by omega, ?_⟩; refine Nat.le_trans (Nat.mul_le_mul_left _ (show _ ≤ 512 by decide)) ?_; omega) | fail) ?_
    | refine AppN_of rfl rfl (by and_intros <;> rfl) (by simp only [List.length_map, List.length_append, List.length_take, List.length_cons, List.length_nil]; first | (refine ⟨by omega, ?_⟩; refine Nat.le_trans (Nat.mul_le_mul_left _ (show _ ≤ 512 by decide)) ?_; omega) | fail) ?_
    | (show False; omega)
  all_goals
    conv => whnf
    refine OutA_plain rfl rfl ?_
    exact congrArg (fun l : List LockT => AV.sl (((waitL l x).foldl putI []).map intC)) (List.take_of_length_le (by omega))
theorem wait_nodup (x : LockT) : ∀ (l pre : List LockT), allPre goodAt pre l = true → (waitL l x).Nodup ∧ ∀ y ∈ pre, confl x y = true → y.Txn ∉ waitL l x
  | [], pre, _ => ⟨List.Pairwise.nil, fun _ _ _ h => by cases h⟩
  | z :: l, pre, h => by
    unfold allPre at h
    rw [Bool.and_eq_true] at h
    obtain ⟨h1, h2⟩ := wait_nodup x l (pre ++ [z]) h.2
    have hz := h.1
    unfold goodAt at hz
    rw [Bool.and_eq_true, Bool.not_eq_true', List.any_eq_false] at hz
    cases hc : confl x z with
    | false =>
      have e : waitL (z :: l) x = waitL l x := by unfold waitL; simp [hc]
      rw [e]
      exact ⟨h1, fun y hy hcy => h2 y (List.mem_append_left _ hy) hcy⟩
    | true =>
      have e : waitL (z :: l) x = z.Txn :: waitL l x := by unfold waitL; simp [hc]
      rw [e]
      refine ⟨List.nodup_cons.2 ⟨h2 z (by simp) hc, h1⟩, fun y hy hcy hm => ?_⟩
      rcases List.mem_cons.1 hm with hm | hm
      · have q := hz.2 y hy
        unfold confl at hc hcy
        simp only [Bool.and_eq_true, decide_eq_true_eq] at hc hcy
        refine q ?_
        unfold badPair
        simp only [Bool.or_eq_true, Bool.and_eq_true, decide_eq_true_eq]
        exact .inl ⟨hc.1.1.symm.trans hcy.1.1, hm.symm⟩
      · exact h2 y (List.mem_append_left _ hy) hcy hm
theorem waits_eq {l : List LockT} {x : LockT} (h : okLocks l = true) : sortI (waitL l x) = waitS l x := by
  unfold okLocks at h
  rw [Bool.and_eq_true] at h
  exact (foldI_eq (wait_nodup x l [] h.1).1).symm
def okW (l : List LockT) (x : LockT) : Bool := okLocks l && okLock x
def resW (l : List LockT) (x : LockT) : List Int := match okW l x with | true => waitS l x | false => []
theorem resW_yes {l : List LockT} {x : LockT} (h : okW l x = true) : resW l x = waitS l x := by unfold resW; rw [h]
theorem resW_no {l : List LockT} {x : LockT} (h : okW l x = false) : resW l x = [] := by unfold resW; rw [h]
theorem okW_l {l : List LockT} {x : LockT} (h : okW l x = true) : okLocks l = true := by unfold okW at h; rw [Bool.and_eq_true] at h; exact h.1
theorem c_spec_WaitsFor (l : List LockT) (x : LockT) (hok : okL LockT.ok l) (hx : x.ok) (hl : l.length ≤ 1048576) : PC Try.prog true 44 [.sl (l.map LockT.cells), .agg x.cells] (.tup [.sl ((resW l x).map intC), .bool (okW l x)]) [] := by
  refine pc_at Try.func44 rfl (by kernel_rfl) 17 [.tmp 4, .tmp 5] rfl rfl ?_
  repeat' (conv => whnf); first
    | refine nameB_true ?_
    | refine nameB_false ?_
    | refine nameB_yes (by assumption) ?_
    | refine nameB_no (by assumption) ?_
    | refine nameB_dyes (by assumption) ?_
    | refine nameB_dno (by assumption) ?_
    | (refine nameB_dec (fun h => ?_) (fun h => ?_) <;> try simp only [List.length_map, List.length_take, List.length_append, List.length_drop, List.length_set, markList_length, midL_len, mkL_length, Int.toNat_natCast, fact_byte] at h)
    | (refine nameB_cases (fun h => ?_) (fun h => ?_) <;> try simp only [bne_iff_ne, ne_eq, bne_eq_false_iff_eq, beq_iff_eq, beq_eq_false_iff_ne, Bool.not_eq_true', Bool.not_eq_false', Bool.or_eq_true, Bool.or_eq_false_iff, List.length_map, List.length_take, List.length_append, List.length_drop, List.length_set, markList_length, midL_len, mkL_length, Int.toNat_natCast, fact_byte] at h)
    | refine splitB_true ?_
    | refine splitB_false ?_
    | (refine splitB_intro (fun h => ?_) (fun h => ?_) <;> subst h)
    | refine ⟨⟨by kernel_rfl, by kernel_rfl, by kernel_rfl⟩, ?_⟩
    | (show Go.Ab.CallA _ _ _ _ _ _ _; first
        | refine Call0 (c_spec_l12Good l hok) rfl rfl ?_
        | refine Call0 (c_spec_l12Lock x hx) rfl rfl ?_
        | refine CallT (c_spec_l12Waits l x hl) rfl rfl rfl rfl (Nat.le_of_ble_eq_true rfl) ?_)
    | refine ix_map_at hx ?_
    | refine ix_map_at hy ?_
    | refine sl_pre (by omega) (fun _ => rfl) ?_
    | refine sl_suf (by omega) (fun _ => rfl) ?_
    | (refine ix_map2 hx (by omega) (by (try simp only [List.length_take]); omega) (fun y hy => ?_); try simp only [Int.toNat_natCast] at hy)
    | (refine ix_map (by omega) (by (try simp only [List.length_take]); omega) (fun x hx => ?_); try simp only [Int.toNat_natCast] at hx)
    | refine side_and (side_of (by first | (and_intros <;> first | exact Nat.le_of_ble_eq_true rfl | rfl | omega | (simp only [List.length_map, List.length_append, List.length_replicate, List.length_take, List.length_cons, List.length_nil, List.length_drop, List.length_set, markList_length, midL_len, mkL_length]; omega) | exact bytes_ok (Nat.le_of_ble_eq_true rfl) (by omega) (by simp only [List.length_map, List.length_append, List.length_replicate, List.length_take, List.length_cons, List.length_nil, List.length_drop, List.length_set, markList_length, midL_len, mkL_length]; omega) | exact bytes_okN (Nat.le_of_ble_eq_true rfl) (by simp only [List.length_map, List.length_append, List.length_replicate, List.length_take, List.length_cons, List.length_nil, List.length_drop, List.length_set, markList_length, midL_len, mkL_length]; omega)) | fail)) ?_
    | refine nilB_intro (fun h => ?_) ?_
    | refine side_and (side_of (show Go.Ab.structOk _ _ = true by kernel_rfl)) ?_
    | refine side_and (side_of (map_len (fun _ => rfl))) ?_
    | refine side_and (side_of (map_one (fun _ => rfl) _)) ?_
    | refine side_and ?_ ?_
    | refine LoadK_of rfl rfl ?_
    | refine LoadD_cel rfl rfl rfl rfl ?_
    | refine LoadD_of rfl ?_
    | refine StoreD_of rfl rfl rfl ?_
    | refine AppD_of rfl (by and_intros <;> first | rfl | decide) (by simp only [List.length_map, List.length_append, List.length_take, List.length_cons, List.length_nil]; first | (refine ⟨by omega, ?_⟩; refine Nat.le_trans (Nat.mul_le_mul_left _ (show _ ≤ 512 by decide)) ?_; omega) | fail) ?_
    | refine AppN_of rfl rfl (by and_intros <;> rfl) (by simp only [List.length_map, List.length_append, List.length_take, List.length_cons, List.length_nil]; first | (refine ⟨by omega, ?_⟩; refine Nat.le_trans (Nat.mul_le_mul_left _ (show _ ≤ 512 by decide)) ?_; omega) | fail) ?_
    | (show False; omega)
  all_goals
    conv => whnf
    first
    | (have e : okW l x = true := (by simp_all [okW]; done); rw [resW_yes e, e]; exact OutA_plain rfl rfl rfl)
    | (have e : okW l x = false := (by simp_all [okW]; done); rw [resW_no e, e]; exact OutA_nilS 4 rfl (OutA_plain rfl rfl rfl))
theorem c_impl_WaitsFor (l : List LockT) (x : LockT) (hok : okL LockT.ok l) (hx : x.ok) (hl : l.length ≤ 1048576) : PC Try.prog false 45 [.sl (l.map LockT.cells), .agg x.cells] (.tup [.own 0, .bool (okW l x)]) [⟨false, 3, 1, (resW l x).map intC⟩] := by
  refine pc_at Try.func45 rfl (by kernel_rfl) 17 [.tmp 4, .tmp 5] rfl rfl ?_
  repeat' (conv => whnf); first
    | refine nameB_true ?_
    | refine nameB_false ?_
    | refine nameB_yes (by assumption) ?_
    | refine nameB_no (by assumption) ?_
    | refine nameB_dyes (by assumption) ?_
    | refine nameB_dno (by assumption) ?_
    | (refine nameB_dec (fun h => ?_) (fun h => ?_) <;> try simp only [List.length_map, List.length_take, List.length_append, List.length_drop, List.length_set, markList_length, midL_len, mkL_length, Int.toNat_natCast, fact_byte] at h)
    | (refine nameB_cases (fun h => ?_) (fun h => ?_) <;> try simp only [bne_iff_ne, ne_eq, bne_eq_false_iff_eq, beq_iff_eq, beq_eq_false_iff_ne, Bool.not_eq_true', Bool.not_eq_false', Bool.or_eq_true, Bool.or_eq_false_iff, List.length_map, List.length_take, List.length_append, List.length_drop, List.length_set, markList_length, midL_len, mkL_length, Int.toNat_natCast, fact_byte] at h)
    | refine splitB_true ?_
    | refine splitB_false ?_
    | (refine splitB_intro (fun h => ?_) (fun h => ?_) <;> subst h)
    | refine ⟨⟨by kernel_rfl, by kernel_rfl, by kernel_rfl⟩, ?_⟩
    | (show Go.Ab.CallA _ _ _ _ _ _ _; first
        | refine Call0 (c_impl_GoodLocks l hok) rfl rfl ?_
        | refine Call0 (c_impl_isLock x hx) rfl rfl ?_
        | refine CallF (c_impl_waitsFor l x hl) rfl rfl rfl (Nat.le_of_ble_eq_true rfl) ?_)
    | refine ix_map_at hx ?_
    | refine ix_map_at hy ?_
    | refine sl_pre (by omega) (fun _ => rfl) ?_
    | refine sl_suf (by omega) (fun _ => rfl) ?_
    | (refine ix_map2 hx (by omega) (by (try simp only [List.length_take]); omega) (fun y hy => ?_); try simp only [Int.toNat_natCast] at hy)
    | (refine ix_map (by omega) (by (try simp only [List.length_take]); omega) (fun x hx => ?_); try simp only [Int.toNat_natCast] at hx)
    | refine side_and (side_of (by first | (and_intros <;> first | exact Nat.le_of_ble_eq_true rfl | rfl | omega | (simp only [List.length_map, List.length_append, List.length_replicate, List.length_take, List.length_cons, List.length_nil, List.length_drop, List.length_set, markList_length, midL_len, mkL_length]; omega) | exact bytes_ok (Nat.le_of_ble_eq_true rfl) (by omega) (by simp only [List.length_map, List.length_append, List.length_replicate, List.length_take, List.length_cons, List.length_nil, List.length_drop, List.length_set, markList_length, midL_len, mkL_length]; omega) | exact bytes_okN (Nat.le_of_ble_eq_true rfl) (by simp only [List.length_map, List.length_append, List.length_replicate, List.length_take, List.length_cons, List.length_nil, List.length_drop, List.length_set, markList_length, midL_len, mkL_length]; omega)) | fail)) ?_
    | refine nilB_intro (fun h => ?_) ?_
    | refine side_and (side_of (show Go.Ab.structOk _ _ = true by kernel_rfl)) ?_
    | refine side_and (side_of (map_len (fun _ => rfl))) ?_
    | refine side_and (side_of (map_one (fun _ => rfl) _)) ?_
    | refine side_and ?_ ?_
    | refine LoadK_of rfl rfl ?_
    | refine LoadD_cel rfl rfl rfl rfl ?_
    | refine LoadD_of rfl ?_
    | refine StoreD_of rfl rfl rfl ?_
    | refine AppD_of rfl (by and_intros <;> first | rfl | decide) (by simp only [List.length_map, List.length_append, List.length_take, List.length_cons, List.length_nil]; first | (refine ⟨by omega, ?_⟩; refine Nat.le_trans (Nat.mul_le_mul_left _ (show _ ≤ 512 by decide)) ?_; omega) | fail) ?_
    | refine AppN_of rfl rfl (by and_intros <;> rfl) (by simp only [List.length_map, List.length_append, List.length_take, List.length_cons, List.length_nil]; first | (refine ⟨by omega, ?_⟩; refine Nat.le_trans (Nat.mul_le_mul_left _ (show _ ≤ 512 by decide)) ?_; omega) | fail) ?_
    | (show False; omega)
  all_goals
    conv => whnf
    first
    | (have e : okW l x = true := (by simp_all [okW]; done); rw [resW_yes e, ← waits_eq (okW_l e), e]; exact OutA_ids rfl rfl rfl ⟨⟨_, _, _, rfl, rfl⟩, trivial⟩ rfl (.inr (flat_one (flat_map (fun _ => rfl) _))))
    | (have e : okW l x = false := (by simp_all [okW]; done); rw [resW_no e, e]; exact OutA_nil 4 1 3 1 rfl rfl (by decide) (OutA_ids rfl rfl rfl ⟨⟨_, _, _, rfl, rfl⟩, trivial⟩ rfl (.inr (flat_one (flat_map (fun _ => rfl) _)))))
end Go.Proofs.Ytpbabdnbbpgejaa
