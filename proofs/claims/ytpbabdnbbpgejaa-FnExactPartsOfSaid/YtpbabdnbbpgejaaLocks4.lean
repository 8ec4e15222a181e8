/-
  What TakeLock gives.
  No condition.
-/
import Derived.Test.YtpbabdnbbpgejaaLocks3
namespace Go.Proofs.Ytpbabdnbbpgejaa
open Go.Ab
set_option linter.unusedSimpArgs false
set_option maxRecDepth 20000
set_option maxHeartbeats 4000000
set_option linter.unusedVariables false

theorem ix_own {α : Type} {f : α → List AV} {xs : List α} {n : Int} {Q : List AV → Prop} (h : n.toNat < xs.length) (hQ : ∀ x, xs[n.toNat]? = some x → Q (f x)) : ∃ y, (xs.map f)[n.toNat]? = some y ∧ Q y :=
  ⟨f xs[n.toNat], by simp [h], hQ _ (by simp [h])⟩
theorem ix_own_at {α : Type} {f : α → List AV} {xs : List α} {n : Int} {m : Nat} {x : α} {Q : List AV → Prop} (e : n.toNat = m) (hx : xs[m]? = some x) (hQ : Q (f x)) : ∃ y, (xs.map f)[n.toNat]? = some y ∧ Q y :=
  ⟨f x, by rw [e, List.getElem?_map, hx]; rfl, hQ⟩
theorem idx_go {α : Type} {q : α → Bool} {xs : List α} {k : Nat} {x : α} {B : Int} (h : idxF q k (xs.drop k) = B) (hx : xs[k]? = some x) (hq : q x = false) : idxF q (k + 1) (xs.drop (k + 1)) = B := by
  rw [drop_get hx] at h
  unfold idxF at h
  rw [if_neg (by simp [hq])] at h
  exact h
theorem idx_hit {α : Type} {q : α → Bool} {xs : List α} {k : Nat} {x : α} {B : Int} (h : idxF q k (xs.drop k) = B) (hx : xs[k]? = some x) (hq : q x = true) : B = (k : Int) := by
  rw [drop_get hx] at h
  unfold idxF at h
  rw [if_pos hq] at h
  exact h.symm
theorem idx_end {α : Type} {q : α → Bool} {xs : List α} {k : Nat} {B : Int} (h : idxF q k (xs.drop k) = B) (hk : ¬ (k : Int) < xs.length) : B = -1 := by
  rw [List.drop_eq_nil_of_le (by omega)] at h
  exact h.symm
theorem idx_lt {α : Type} {q : α → Bool} {xs : List α} (h : ¬ idxF q 0 xs < 0) : (idxF q 0 xs).toNat < xs.length := by
  obtain ⟨x, h1, _⟩ := idxF_lt (q := q) (xs := xs) (k := 0) rfl (by omega)
  exact (List.getElem?_eq_some_iff.1 h1).1
def sameL (x y : LockT) : Bool := decide (y.Key = x.Key) && decide (y.Txn = x.Txn)
def orW (x y : LockT) : LockT := { y with Write := y.Write || x.Write }
def takeL (l : List LockT) (x : LockT) : List LockT :=
  if idxF (sameL x) 0 l < 0 then l ++ [x] else match l[(idxF (sameL x) 0 l).toNat]? with | some y => l.set (idxF (sameL x) 0 l).toNat (orW x y) | none => l
theorem takeL_no {l : List LockT} {x : LockT} (h : idxF (sameL x) 0 l < 0) : takeL l x = l ++ [x] := by unfold takeL; rw [if_pos h]
theorem takeL_yes {l : List LockT} {x y : LockT} (h : ¬ idxF (sameL x) 0 l < 0) (hy : l[(idxF (sameL x) 0 l).toNat]? = some y) : takeL l x = l.set (idxF (sameL x) 0 l).toNat (orW x y) := by unfold takeL; rw [if_neg h, hy]
theorem takeL_at {l : List LockT} {x y : LockT} {k : Nat} (h : idxF (sameL x) 0 l = (k : Int)) (hy : l[k]? = some y) : takeL l x = l.set k (orW x y) := by
  have e := takeL_yes (l := l) (x := x) (y := y) (by omega) (by rw [h]; exact hy)
  rw [e, h]; rfl
theorem takeL_len {l : List LockT} {x : LockT} : (takeL l x).length ≤ l.length + 1 := by
  unfold takeL
  split
  · simp
  · split <;> simp
theorem set_cells {l : List LockT} {k : Nat} {z : LockT} {e : List AV} (he : e = z.cells) : (l.map LockT.cells).set k e = (l.set k z).map LockT.cells := by rw [he, List.map_set]
theorem set_at {l : List LockT} {x y : LockT} {k : Nat} {e : List AV} (h : idxF (sameL x) 0 l = (k : Int)) (hy : l[k]? = some y) (he : e = (orW x y).cells) : (l.map LockT.cells).set k e = (takeL l x).map LockT.cells := by rw [takeL_at h hy]; exact set_cells he
theorem app_at {l : List LockT} {x : LockT} {L : List (List AV)} (h : idxF (sameL x) 0 l < 0) (hL : L = [x.cells]) : l.map LockT.cells ++ L = (takeL l x).map LockT.cells := by rw [takeL_no h, hL]; simp
theorem sl_no1 {x y : LockT} (h : ¬ y.Key = x.Key) : sameL x y = false := by unfold sameL; simp [h]
theorem sl_no2 {x y : LockT} (h : ¬ y.Txn = x.Txn) : sameL x y = false := by unfold sameL; simp [h]
theorem sl_yes {x y : LockT} (h : y.Key = x.Key) (h2 : y.Txn = x.Txn) : sameL x y = true := by unfold sameL; simp [h, h2]
theorem or_any {x y : LockT} {e : List AV} {b : Bool} (he : e = [.str y.Key, .int .i64 y.Txn, .bool b]) (hb : b = (y.Write || x.Write)) : e = (orW x y).cells := by rw [he, hb]; rfl
theorem set_at2 {l : List LockT} {x y : LockT} {e : List AV} (h : ¬ idxF (sameL x) 0 l < 0) (hy : l[(idxF (sameL x) 0 l).toNat]? = some y) (he : e = (orW x y).cells) : (l.map LockT.cells).set (idxF (sameL x) 0 l).toNat e = (takeL l x).map LockT.cells := by rw [takeL_yes h hy]; exact set_cells he
theorem nameB_gt {n m : Nat} {c : Int} {K : Bool → Prop} (e : n = m) (h : nameB (decide ((m : Int) > c)) K) : nameB (decide ((n : Int) > c)) K := by rw [e]; exact h
theorem c_spec_l12Take (l : List LockT) (x : LockT) (hl : l.length ≤ 1048576) : PC Try.prog false 78 [.sl (l.map LockT.cells), .agg x.cells] (.own 0) [⟨false, 55, 3, (takeL l x).map LockT.cells⟩] := by
  refine pc_at Try.func78 rfl (by kernel_rfl) 46 [.tmp 4] rfl rfl ?_
  repeat' (conv => whnf); first
    | refine ix_own_at (by omega) hy ?_
    | (refine ix_own (by omega) (fun y hy => ?_); try simp only [Int.toNat_natCast] at hy)
    | (refine nameB_cases (b := y.Write) (fun h => ?_) (fun h => ?_))
    | refine side_and (side_of (by first | (and_intros <;> first | exact Nat.le_of_ble_eq_true rfl | rfl | (intro e; exact absurd (AV.own.inj e) (by decide)) | (intro e; exact AV.noConfusion e)) | fail)) ?_
    | refine side_and (side_of (app_bound2 (L := []) (M := l.map LockT.cells) (by (try simp only [List.length_map, List.length_append, List.length_take, List.length_set, List.length_drop, List.length_cons, List.length_nil]); omega) (Nat.le_of_ble_eq_true rfl))) ?_
    | refine side_and (side_of (one_lenC rfl rfl)) ?_
    | refine side_and (side_of (by first | (and_intros <;> first | exact Nat.le_of_ble_eq_true rfl | rfl | (intro e; exact absurd (AV.own.inj e) (by decide)) | (intro e; exact AV.noConfusion e)) | fail)) ?_
    | refine side_and (side_of (app_boundC (L := l.map LockT.cells) rfl (by (try simp only [List.length_map, List.length_append, List.length_take, List.length_set, List.length_drop]); omega) (Nat.le_of_ble_eq_true rfl))) ?_
    | refine nameB_true ?_
    | refine nameB_false ?_
    | refine nameB_yes (by assumption) ?_
    | refine nameB_no (by assumption) ?_
    | refine nameB_dyes (by assumption) ?_
    | refine nameB_dno (by assumption) ?_
    | (refine nameB_dec (fun h => ?_) (fun h => ?_) <;> try simp only [List.length_map, List.length_take, List.length_append, List.length_drop, List.length_set, markList_length, midL_len, mkL_length, Int.toNat_natCast, fact_byte] at h)
    | (refine nameB_cases (fun h => ?_) (fun h => ?_) <;> try simp only [bne_iff_ne, ne_eq, bne_eq_false_iff_eq, beq_iff_eq, beq_eq_false_iff_ne, Bool.not_eq_true', Bool.not_eq_false', Bool.or_eq_true, Bool.or_eq_false_iff, List.length_map, List.length_take, List.length_append, List.length_drop, List.length_set, markList_length, midL_len, mkL_length, Int.toNat_natCast, fact_byte] at h)
    | refine splitB_true ?_
    | refine splitB_false ?_
    | (refine splitB_intro (fun h => ?_) (fun h => ?_) <;> subst h)
    | refine ⟨⟨by kernel_rfl, by kernel_rfl, by kernel_rfl⟩, ?_⟩
    | (show Go.Ab.Loop _ _ _; (refine Loop_at [3, 5, 11, 12] [0] (Nat) (fun k => idxF (sameL x) k (l.drop k) = idxF (sameL x) 0 l ∧ k ≤ l.length) (fun k => [(13, .int .i64 (k : Nat))]) (fun k => [(4128, ⟨false, 55, 3, l.map LockT.cells⟩)]) (fun k => l.length - k) 0 ⟨by first | (simp_all <;> fail) | rfl | fail, trivial⟩ ⟨by first | rfl | exact congrArg (fun e => some (AObj.mk _ _ _ e)) (set_rep hx) | exact congrArg (fun e => some (AObj.mk _ _ _ e)) start_rep | fail | fail, trivial⟩ (by (try dsimp only); first | (exact ⟨rfl, Nat.zero_le _⟩) | fail) ?_; (conv => whnf); refine side_and (side_of (by first | exact fun k => rfl | exact fun k => by simp [headOk, closedE, closedO, closedL, AV.closed, hcap.closed])) ?_; rintro k hT; try dsimp only at hT))
    | (show Go.Ab.Again _ _ _ _ _ _ _ _ _ _ _; refine Again_of (k + 1) ⟨by first | rfl | exact i64_next (by omega) | (simp_all <;> fail) | fail, trivial⟩ ⟨by first | rfl | exact congrArg (fun e => some (AObj.mk _ _ _ e)) (set_rep hx) | exact congrArg (fun e => some (AObj.mk _ _ _ e)) start_rep | fail | fail, trivial⟩ (by first | (and_intros <;> first | rfl | trivial) | fail) (by first | (and_intros <;> first | rfl | trivial) | fail) rfl rfl rfl (by (try dsimp only); first | (first | exact ⟨idx_go hT.1 hy (sl_no1 (by assumption)), by omega⟩ | exact ⟨idx_go hT.1 hy (sl_no2 (by assumption)), by omega⟩) | fail) (show _ < _ by (try dsimp only); omega))
    | refine ix_map_at hx ?_
    | refine ix_map_at hy ?_
    | refine sl_pre (by omega) (fun _ => rfl) ?_
    | refine sl_suf (by omega) (fun _ => rfl) ?_
    | (refine ix_map2 hx (by omega) (by (try simp only [List.length_take]); omega) (fun y hy => ?_); try simp only [Int.toNat_natCast] at hy)
    | (refine ix_map (by omega) (by (try simp only [List.length_take]); omega) (fun x hx => ?_); try simp only [Int.toNat_natCast] at hx)
    | refine side_and (side_of (by first | (and_intros <;> first | exact Nat.le_of_ble_eq_true rfl | rfl | omega | (simp only [List.length_map, List.length_append, List.length_replicate, List.length_take, List.length_cons, List.length_nil, List.length_drop, List.length_set, markList_length, midL_len, mkL_length]; omega) | exact bytes_ok (Nat.le_of_ble_eq_true rfl) (by omega) (by simp only [List.length_map, List.length_append, List.length_replicate, List.length_take, List.length_cons, List.length_nil, List.length_drop, List.length_set, markList_length, midL_len, mkL_length]; omega) | exact bytes_okN (Nat.le_of_ble_eq_true rfl) (by simp only [List.length_map, List.length_append, List.length_replicate, List.length_take, List.length_cons, List.length_nil, List.length_drop, List.length_set, markList_length, midL_len, mkL_length]; omega)) | fail)) ?_
    | refine nilB_intro (fun h => ?_) ?_
    | refine side_and (side_of (show Go.Ab.structOk _ _ = true by kernel_rfl)) ?_
    | refine side_and (side_of (map_len (fun _ => rfl))) ?_
    | refine side_and (side_of (map_one (fun _ => rfl) _)) ?_
    | refine side_and ?_ ?_
    | refine LoadK_of rfl rfl ?_
    | refine LoadD_cel rfl rfl rfl rfl ?_
    | refine LoadD_of rfl ?_
    | refine StoreD_of rfl rfl rfl ?_
    | refine AppD_of rfl (by and_intros <;> first | rfl | decide) (by simp only [List.length_map, List.length_append, List.length_take, List.length_cons, List.length_nil]; first | (refine ⟨by omega, ?_⟩; refine Nat.le_trans (Nat.mul_le_mul_left _ (show _ ≤ 512 by decide)) ?_; omega) | fail) ?_
    | refine AppN_of rfl rfl (by and_intros <;> rfl) (by simp only [List.length_map, List.length_append, List.length_take, List.length_cons, List.length_nil]; first | (refine ⟨by omega, ?_⟩; refine Nat.le_trans (Nat.mul_le_mul_left _ (show _ ≤ 512 by decide)) ?_; omega) | fail) ?_
    | (show False; omega)
  all_goals
    conv => whnf
    first
    | (have hb := idx_end hT.1 (by assumption); exact OutA_ids rfl rfl rfl ⟨⟨_, _, _, rfl, congrArg (AObj.mk _ _ _) (app_at (by omega) rfl).symm⟩, trivial⟩ rfl (.inr (flat_one (flat_map (fun _ => rfl) _))))
    | (have hb := idx_hit hT.1 hy (sl_yes (by assumption) (by assumption)); exact OutA_ids rfl rfl rfl ⟨⟨_, _, _, rfl, congrArg (AObj.mk _ _ _) (set_at hb hy (or_any rfl (by first | simp [*] | fail))).symm⟩, trivial⟩ rfl (.inr (flat_one (flat_map (fun _ => rfl) _))))
theorem c_impl_takeLock_1 (x y : LockT) : PC Try.prog false 123 [.agg y.cells, .rp x.cells] (.bool (sameL x y)) [] := by
  refine pc_at Try.func123 rfl (by kernel_rfl) 16 [.tmp 3] rfl rfl ?_
  repeat' (conv => whnf); first
    | refine nameB_true ?_
    | refine nameB_false ?_
    | refine nameB_yes (by assumption) ?_
    | refine nameB_no (by assumption) ?_
    | refine nameB_dyes (by assumption) ?_
    | refine nameB_dno (by assumption) ?_
    | (refine nameB_dec (fun h => ?_) (fun h => ?_) <;> try simp only [List.length_map, List.length_take, List.length_append, List.length_drop, List.length_set, markList_length, midL_len, mkL_length, Int.toNat_natCast, fact_byte] at h)
    | (refine nameB_cases (fun h => ?_) (fun h => ?_) <;> try simp only [bne_iff_ne, ne_eq, bne_eq_false_iff_eq, beq_iff_eq, beq_eq_false_iff_ne, Bool.not_eq_true', Bool.not_eq_false', Bool.or_eq_true, Bool.or_eq_false_iff, List.length_map, List.length_take, List.length_append, List.length_drop, List.length_set, markList_length, midL_len, mkL_length, Int.toNat_natCast, fact_byte] at h)
    | refine splitB_true ?_
    | refine splitB_false ?_
    | (refine splitB_intro (fun h => ?_) (fun h => ?_) <;> subst h)
    | refine ⟨⟨by kernel_rfl, by kernel_rfl, by kernel_rfl⟩, ?_⟩
    | refine ix_map_at hx ?_
    | refine ix_map_at hy ?_
    | refine sl_pre (by omega) (fun _ => rfl) ?_
    | refine sl_suf (by omega) (fun _ => rfl) ?_
    | (refine ix_map2 hx (by omega) (by (try simp only [List.length_take]); omega) (fun y hy => ?_); try simp only [Int.toNat_natCast] at hy)
    | (refine ix_map (by omega) (by (try simp only [List.length_take]); omega) (fun x hx => ?_); try simp only [Int.toNat_natCast] at hx)
    | refine side_and (side_of (by first | (and_intros <;> first | exact Nat.le_of_ble_eq_true rfl | rfl | omega | (simp only [List.length_map, List.length_append, List.length_replicate, List.length_take, List.length_cons, List.length_nil, List.length_drop, List.length_set, markList_length, midL_len, mkL_length]; omega) | exact bytes_ok (Nat.le_of_ble_eq_true rfl) (by omega) (by simp only [List.length_map, List.length_append, List.length_replicate, List.length_take, List.length_cons, List.length_nil, List.length_drop, List.length_set, markList_length, midL_len, mkL_length]; omega) | exact bytes_okN (Nat.le_of_ble_eq_true rfl) (by simp only [List.length_map, List.length_append, List.length_replicate, List.length_take, List.length_cons, List.length_nil, List.length_drop, List.length_set, markList_length, midL_len, mkL_length]; omega)) | fail)) ?_
    | refine nilB_intro (fun h => ?_) ?_
    | refine side_and (side_of (show Go.Ab.structOk _ _ = true by kernel_rfl)) ?_
    | refine side_and (side_of (map_len (fun _ => rfl))) ?_
    | refine side_and (side_of (map_one (fun _ => rfl) _)) ?_
    | refine side_and ?_ ?_
    | refine LoadK_of rfl rfl ?_
    | refine LoadD_cel rfl rfl rfl rfl ?_
    | refine LoadD_of rfl ?_
    | refine StoreD_of rfl rfl rfl ?_
    | refine AppD_of rfl (by and_intros <;> first | rfl | decide) (by simp only [List.length_map, List.length_append, List.length_take, List.length_cons, List.length_nil]; first | (refine ⟨by omega, ?_⟩; refine Nat.le_trans (Nat.mul_le_mul_left _ (show _ ≤ 512 by decide)) ?_; omega) | fail) ?_
    | refine AppN_of rfl rfl (by and_intros <;> rfl) (by simp only [List.length_map, List.length_append, List.length_take, List.length_cons, List.length_nil]; first | (refine ⟨by omega, ?_⟩; refine Nat.le_trans (Nat.mul_le_mul_left _ (show _ ≤ 512 by decide)) ?_; omega) | fail) ?_
    | (show False; omega)
  all_goals
    conv => whnf
    refine OutA_plain rfl rfl ?_
    first
    | rfl
    | (simp_all [sameL, named, AV.sub, AV.sub.subL]; done)
    | (simp_all [sameL, named, AV.sub, AV.sub.subL] <;> omega)
theorem c_Clone_Lock (xs : List LockT) (hl : xs.length ≤ 1048576) : PC Try.prog false 72 [.sl (xs.map LockT.cells)] (.own 0) [⟨false, 55, 3, xs.map LockT.cells⟩] := by
  refine pc_at Try.func72 rfl (by kernel_rfl) 8 [.tmp 2] rfl rfl ?_
  repeat' (conv => whnf); first
    | refine nameB_true ?_
    | refine nameB_false ?_
    | refine nameB_yes (by assumption) ?_
    | refine nameB_no (by assumption) ?_
    | refine nameB_dyes (by assumption) ?_
    | refine nameB_dno (by assumption) ?_
    | (refine nameB_dec (fun h => ?_) (fun h => ?_) <;> try simp only [List.length_map, List.length_take, List.length_append, List.length_drop, List.length_set, markList_length, midL_len, mkL_length, Int.toNat_natCast, fact_byte] at h)
    | (refine nameB_cases (fun h => ?_) (fun h => ?_) <;> try simp only [bne_iff_ne, ne_eq, bne_eq_false_iff_eq, beq_iff_eq, beq_eq_false_iff_ne, Bool.not_eq_true', Bool.not_eq_false', Bool.or_eq_true, Bool.or_eq_false_iff, List.length_map, List.length_take, List.length_append, List.length_drop, List.length_set, markList_length, midL_len, mkL_length, Int.toNat_natCast, fact_byte] at h)
    | refine splitB_true ?_
    | refine splitB_false ?_
    | (refine splitB_intro (fun h => ?_) (fun h => ?_) <;> subst h)
    | refine ⟨⟨by kernel_rfl, by kernel_rfl, by kernel_rfl⟩, ?_⟩
    | refine ix_map_at hx ?_
    | refine ix_map_at hy ?_
    | refine sl_pre (by omega) (fun _ => rfl) ?_
    | refine sl_suf (by omega) (fun _ => rfl) ?_
    | (refine ix_map2 hx (by omega) (by (try simp only [List.length_take]); omega) (fun y hy => ?_); try simp only [Int.toNat_natCast] at hy)
    | (refine ix_map (by omega) (by (try simp only [List.length_take]); omega) (fun x hx => ?_); try simp only [Int.toNat_natCast] at hx)
    | refine side_and (side_of (by first | (and_intros <;> first | exact Nat.le_of_ble_eq_true rfl | rfl | omega | (simp only [List.length_map, List.length_append, List.length_replicate, List.length_take, List.length_cons, List.length_nil, List.length_drop, List.length_set, markList_length, midL_len, mkL_length]; omega) | exact bytes_ok (Nat.le_of_ble_eq_true rfl) (by omega) (by simp only [List.length_map, List.length_append, List.length_replicate, List.length_take, List.length_cons, List.length_nil, List.length_drop, List.length_set, markList_length, midL_len, mkL_length]; omega) | exact bytes_okN (Nat.le_of_ble_eq_true rfl) (by simp only [List.length_map, List.length_append, List.length_replicate, List.length_take, List.length_cons, List.length_nil, List.length_drop, List.length_set, markList_length, midL_len, mkL_length]; omega)) | fail)) ?_
    | refine nilB_intro (fun h => ?_) ?_
    | refine side_and (side_of (show Go.Ab.structOk _ _ = true by kernel_rfl)) ?_
    | refine side_and (side_of (map_len (fun _ => rfl))) ?_
    | refine side_and (side_of (map_one (fun _ => rfl) _)) ?_
    | refine side_and ?_ ?_
    | refine LoadK_of rfl rfl ?_
    | refine LoadD_cel rfl rfl rfl rfl ?_
    | refine LoadD_of rfl ?_
    | refine StoreD_of rfl rfl rfl ?_
    | refine AppD_of rfl (by and_intros <;> first | rfl | decide) (by simp only [List.length_map, List.length_append, List.length_take, List.length_cons, List.length_nil]; first | (refine ⟨by omega, ?_⟩; refine Nat.le_trans (Nat.mul_le_mul_left _ (show _ ≤ 512 by decide)) ?_; omega) | fail) ?_
    | refine AppN_of rfl rfl (by and_intros <;> rfl) (by simp only [List.length_map, List.length_append, List.length_take, List.length_cons, List.length_nil]; first | (refine ⟨by omega, ?_⟩; refine Nat.le_trans (Nat.mul_le_mul_left _ (show _ ≤ 512 by decide)) ?_; omega) | fail) ?_
    | (show False; omega)
  all_goals
    conv => whnf
    first
    | exact OutA_ids rfl rfl rfl ⟨⟨_, _, _, rfl, rfl⟩, trivial⟩ rfl (.inr (flat_one (flat_map (fun _ => rfl) _)))
    | exact OutA_nil 2 1 55 3 rfl rfl (by decide) (OutA_ids rfl rfl rfl ⟨⟨_, _, _, rfl, congrArg (AObj.mk _ _ _) (map_nil_of (by assumption))⟩, trivial⟩ rfl (.inr (flat_one (flat_map (fun _ => rfl) _))))
def okTk (l : List LockT) (x : LockT) : Bool := decide (waitS l x = []) && decide (((takeL l x).length : Int) ≤ 60)
def resT (b : Bool) (l : List LockT) : List LockT := match b with | true => l | false => []
theorem waits_nil {l : List LockT} {x : LockT} (h : okLocks l = true) : (sortI (waitL l x)).length = (waitS l x).length := by rw [waits_eq h]
theorem okTk_yes {l : List LockT} {x : LockT} (h : ¬ ((waitS l x).length : Int) > 0) (h2 : ¬ ((takeL l x).length : Int) > 60) : okTk l x = true := by
  have e : waitS l x = [] := List.eq_nil_of_length_eq_zero (by omega)
  unfold okTk
  simp [e]; omega
theorem okTk_no1 {l : List LockT} {x : LockT} (h : ((waitS l x).length : Int) > 0) : okTk l x = false := by
  have e : ¬ waitS l x = [] := fun e => by rw [e] at h; simp at h
  unfold okTk
  simp [e]
theorem okTk_no2 {l : List LockT} {x : LockT} (h : ((takeL l x).length : Int) > 60) : okTk l x = false := by
  unfold okTk
  rw [decide_eq_false (p := ((takeL l x).length : Int) ≤ 60) (by omega), Bool.and_false]
theorem c_impl_takeLock (l : List LockT) (x : LockT) (hg : okLocks l = true) (hl : l.length ≤ 1048575) : PC Try.prog false 80 [.sl (l.map LockT.cells), .agg x.cells] (.tup [.own 0, .bool (okTk l x)]) [⟨false, 55, 3, (resT (okTk l x) (takeL l x)).map LockT.cells⟩] := by
  have hwe := waits_nil (x := x) hg
  have htl := takeL_len (l := l) (x := x)
  have hq : ¬ idxF (sameL x) 0 l < 0 → (idxF (sameL x) 0 l).toNat < l.length := idx_lt
  refine pc_at Try.func80 rfl (by kernel_rfl) 43 [.tmp 4, .tmp 5] rfl rfl ?_
  repeat' (conv => whnf); first
    | exact side_of (by first | (refine ⟨by omega, ?_⟩; simp only [List.length_map]; omega) | fail)
    | refine ix_own_at (by omega) hy ?_
    | (refine ix_own (by omega) (fun y hy => ?_); try simp only [Int.toNat_natCast] at hy)
    | (refine nameB_cases (b := y.Write) (fun h => ?_) (fun h => ?_))
    | refine nameB_gt (congrArg List.length (app_at (by omega) rfl)) ?_
    | refine nameB_gt (congrArg List.length (set_at2 (by omega) hy (or_any rfl (by first | simp [*] | fail)))) ?_
    | refine side_and (side_of (one_lenC rfl rfl)) ?_
    | refine side_and (side_of (by first | (and_intros <;> first | exact Nat.le_of_ble_eq_true rfl | rfl | (intro e; exact absurd (AV.own.inj e) (by decide)) | (intro e; exact AV.noConfusion e)) | fail)) ?_
    | refine side_and (side_of (app_boundC (L := l.map LockT.cells) rfl (by (try simp only [List.length_map, List.length_append, List.length_take, List.length_set, List.length_drop]); omega) (Nat.le_of_ble_eq_true rfl))) ?_
    | refine nameB_true ?_
    | refine nameB_false ?_
    | refine nameB_yes (by assumption) ?_
    | refine nameB_no (by assumption) ?_
    | refine nameB_dyes (by assumption) ?_
    | refine nameB_dno (by assumption) ?_
    | (refine nameB_dec (fun h => ?_) (fun h => ?_) <;> try simp only [List.length_map, List.length_take, List.length_append, List.length_drop, List.length_set, markList_length, midL_len, mkL_length, Int.toNat_natCast, fact_byte] at h)
    | (refine nameB_cases (fun h => ?_) (fun h => ?_) <;> try simp only [bne_iff_ne, ne_eq, bne_eq_false_iff_eq, beq_iff_eq, beq_eq_false_iff_ne, Bool.not_eq_true', Bool.not_eq_false', Bool.or_eq_true, Bool.or_eq_false_iff, List.length_map, List.length_take, List.length_append, List.length_drop, List.length_set, markList_length, midL_len, mkL_length, Int.toNat_natCast, fact_byte] at h)
    | refine splitB_true ?_
    | refine splitB_false ?_
    | (refine splitB_intro (fun h => ?_) (fun h => ?_) <;> subst h)
    | refine ⟨⟨by kernel_rfl, by kernel_rfl, by kernel_rfl⟩, ?_⟩
    | (show Go.Ab.CallA _ _ _ _ _ _ _; first
        | refine CallF (c_Clone_Lock l (by omega)) rfl rfl rfl (Nat.le_of_ble_eq_true rfl) ?_
        | refine Call0 (c_IndexFunc_Lock l 123 [.rp x.cells] (sameL x) (by omega) ⟨fun _ => rfl, fun _ => rfl, fun _ => rfl, fun _ => rfl, fun _ => rfl⟩ (fun y _ => c_impl_takeLock_1 x y)) rfl rfl ?_
        | refine CallF (c_impl_waitsFor l x (by omega)) rfl rfl rfl (Nat.le_of_ble_eq_true rfl) ?_)
    | refine ix_map_at hx ?_
    | refine ix_map_at hy ?_
    | refine sl_pre (by omega) (fun _ => rfl) ?_
    | refine sl_suf (by omega) (fun _ => rfl) ?_
    | (refine ix_map2 hx (by omega) (by (try simp only [List.length_take]); omega) (fun y hy => ?_); try simp only [Int.toNat_natCast] at hy)
    | (refine ix_map (by omega) (by (try simp only [List.length_take]); omega) (fun x hx => ?_); try simp only [Int.toNat_natCast] at hx)
    | refine side_and (side_of (by first | (and_intros <;> first | exact Nat.le_of_ble_eq_true rfl | rfl | omega | (simp only [List.length_map, List.length_append, List.length_replicate, List.length_take, List.length_cons, List.length_nil, List.length_drop, List.length_set, markList_length, midL_len, mkL_length]; omega) | exact bytes_ok (Nat.le_of_ble_eq_true rfl) (by omega) (by simp only [List.length_map, List.length_append, List.length_replicate, List.length_take, List.length_cons, List.length_nil, List.length_drop, List.length_set, markList_length, midL_len, mkL_length]; omega) | exact bytes_okN (Nat.le_of_ble_eq_true rfl) (by simp only [List.length_map, List.length_append, List.length_replicate, List.length_take, List.length_cons, List.length_nil, List.length_drop, List.length_set, markList_length, midL_len, mkL_length]; omega)) | fail)) ?_
    | refine nilB_intro (fun h => ?_) ?_
    | refine side_and (side_of (show Go.Ab.structOk _ _ = true by kernel_rfl)) ?_
    | refine side_and (side_of (map_len (fun _ => rfl))) ?_
    | refine side_and (side_of (map_one (fun _ => rfl) _)) ?_
    | refine side_and ?_ ?_
    | refine LoadK_of rfl rfl ?_
    | refine LoadD_cel rfl rfl rfl rfl ?_
    | refine LoadD_of rfl ?_
    | refine StoreD_of rfl rfl rfl ?_
    | refine AppD_of rfl (by and_intros <;> first | rfl | decide) (by simp only [List.length_map, List.length_append, List.length_take, List.length_cons, List.length_nil]; first | (refine ⟨by omega, ?_⟩; refine Nat.le_trans (Nat.mul_le_mul_left _ (show _ ≤ 512 by decide)) ?_; omega) | fail) ?_
    | refine AppN_of rfl rfl (by and_intros <;> rfl) (by simp only [List.length_map, List.length_append, List.length_take, List.length_cons, List.length_nil]; first | (refine ⟨by omega, ?_⟩; refine Nat.le_trans (Nat.mul_le_mul_left _ (show _ ≤ 512 by decide)) ?_; omega) | fail) ?_
    | (show False; omega)
  all_goals
    conv => whnf
    first
    | (have e := okTk_no1 (l := l) (x := x) (by omega); rw [e]; exact OutA_nil 4 1 55 3 rfl rfl (by decide) (OutA_ids rfl rfl rfl ⟨⟨_, _, _, rfl, rfl⟩, trivial⟩ rfl (.inr (flat_one (flat_map (fun _ => rfl) _)))))
    | (have e := okTk_no2 (l := l) (x := x) (by assumption); rw [e]; exact OutA_nil 4 1 55 3 rfl rfl (by decide) (OutA_ids rfl rfl rfl ⟨⟨_, _, _, rfl, rfl⟩, trivial⟩ rfl (.inr (flat_one (flat_map (fun _ => rfl) _)))))
    | (have e := okTk_yes (l := l) (x := x) (by omega) (by assumption); rw [e]; exact OutA_ids rfl rfl rfl ⟨⟨_, _, _, rfl, congrArg (AObj.mk _ _ _) (app_at (by omega) rfl).symm⟩, trivial⟩ rfl (.inr (flat_one (flat_map (fun _ => rfl) _))))
    | (have e := okTk_yes (l := l) (x := x) (by omega) (by assumption); rw [e]; exact OutA_ids rfl rfl rfl ⟨⟨_, _, _, rfl, congrArg (AObj.mk _ _ _) (set_at2 (by omega) hy (or_any rfl (by first | simp [*] | fail))).symm⟩, trivial⟩ rfl (.inr (flat_one (flat_map (fun _ => rfl) _))))
def okT2 (l : List LockT) (x : LockT) : Bool := okW l x && okTk l x
def takeR (l : List LockT) (x : LockT) : List LockT := resT (okT2 l x) (takeL l x)
theorem okLocks_len {l : List LockT} (h : okLocks l = true) : l.length ≤ 60 := by
  unfold okLocks at h
  rw [Bool.and_eq_true, decide_eq_true_eq] at h
  omega
theorem c_impl_TakeLock (l : List LockT) (x : LockT) (hok : okL LockT.ok l) (hx : x.ok) : PC Try.prog false 36 [.sl (l.map LockT.cells), .agg x.cells] (.tup [.own 0, .bool (okT2 l x)]) [⟨false, 55, 3, (takeR l x).map LockT.cells⟩] := by
  unfold takeR
  by_cases hg : okLocks l = true
  · have hgl := okLocks_len hg
    refine pc_at Try.func36 rfl (by kernel_rfl) 19 [.tmp 4, .tmp 5] rfl rfl ?_
    repeat' (conv => whnf); first
      | refine nameB_self (b := okTk l x) ?_
      | refine nameB_true ?_
      | refine nameB_false ?_
      | refine nameB_yes (by assumption) ?_
      | refine nameB_no (by assumption) ?_
      | refine nameB_dyes (by assumption) ?_
      | refine nameB_dno (by assumption) ?_
      | (refine nameB_dec (fun h => ?_) (fun h => ?_) <;> try simp only [List.length_map, List.length_take, List.length_append, List.length_drop, List.length_set, markList_length, midL_len, mkL_length, Int.toNat_natCast, fact_byte] at h)
      | (refine nameB_cases (fun h => ?_) (fun h => ?_) <;> try simp only [bne_iff_ne, ne_eq, bne_eq_false_iff_eq, beq_iff_eq, beq_eq_false_iff_ne, Bool.not_eq_true', Bool.not_eq_false', Bool.or_eq_true, Bool.or_eq_false_iff, List.length_map, List.length_take, List.length_append, List.length_drop, List.length_set, markList_length, midL_len, mkL_length, Int.toNat_natCast, fact_byte] at h)
      | refine splitB_true ?_
      | refine splitB_false ?_
      | (refine splitB_intro (fun h => ?_) (fun h => ?_) <;> subst h)
      | refine ⟨⟨by kernel_rfl, by kernel_rfl, by kernel_rfl⟩, ?_⟩
      | (show Go.Ab.CallA _ _ _ _ _ _ _; first
          | refine Call0 (c_impl_GoodLocks l hok) rfl rfl ?_
          | refine Call0 (c_impl_isLock x hx) rfl rfl ?_
          | refine CallF (c_impl_takeLock l x hg (by omega)) rfl rfl rfl (Nat.le_of_ble_eq_true rfl) ?_)
      | refine ix_map_at hx ?_
      | refine ix_map_at hy ?_
      | refine sl_pre (by omega) (fun _ => rfl) ?_
      | refine sl_suf (by omega) (fun _ => rfl) ?_
      | (refine ix_map2 hx (by omega) (by (try simp only [List.length_take]); omega) (fun y hy => ?_); try simp only [Int.toNat_natCast] at hy)
      | (refine ix_map (by omega) (by (try simp only [List.length_take]); omega) (fun x hx => ?_); try simp only [Int.toNat_natCast] at hx)
      | refine side_and (side_of (by first | (and_intros <;> first | exact Nat.le_of_ble_eq_true rfl | rfl | omega | (simp only [List.length_map, List.length_append, List.length_replicate, List.length_take, List.length_cons, List.length_nil, List.length_drop, List.length_set, markList_length, midL_len, mkL_length]; omega) | exact bytes_ok (Nat.le_of_ble_eq_true rfl) (by omega) (by simp only [List.length_map, List.length_append, List.length_replicate, List.length_take, List.length_cons, List.length_nil, List.length_drop, List.length_set, markList_length, midL_len, mkL_length]; omega) | exact bytes_okN (Nat.le_of_ble_eq_true rfl) (by simp only [List.length_map, List.length_append, List.length_replicate, List.length_take, List.length_cons, List.length_nil, List.length_drop, List.length_set, markList_length, midL_len, mkL_length]; omega)) | fail)) ?_
      | refine nilB_intro (fun h => ?_) ?_
      | refine side_and (side_of (show Go.Ab.structOk _ _ = true by kernel_rfl)) ?_
      | refine side_and (side_of (map_len (fun _ => rfl))) ?_
      | refine side_and (side_of (map_one (fun _ => rfl) _)) ?_
      | refine side_and ?_ ?_
      | refine LoadK_of rfl rfl ?_
      | refine LoadD_cel rfl rfl rfl rfl ?_
      | refine LoadD_of rfl ?_
      | refine StoreD_of rfl rfl rfl ?_
      | refine AppD_of rfl (by and_intros <;> first | rfl | decide) (by simp only [List.length_map, List.length_append, List.length_take, List.length_cons, List.length_nil]; first | (refine ⟨by omega, ?_⟩; refine Nat.le_trans (Nat.mul_le_mul_left _ (show _ ≤ 512 by decide)) ?_; omega) | fail) ?_
      | refine AppN_of rfl rfl (by and_intros <;> rfl) (by simp only [List.length_map, List.length_append, List.length_take, List.length_cons, List.length_nil]; first | (refine ⟨by omega, ?_⟩; refine Nat.le_trans (Nat.mul_le_mul_left _ (show _ ≤ 512 by decide)) ?_; omega) | fail) ?_
      | (show False; omega)
    all_goals
      conv => whnf
      first
      | (have e : okT2 l x = okTk l x := (by simp_all [okT2, okW]; done); rw [e]; exact OutA_ids rfl rfl rfl ⟨⟨_, _, _, rfl, rfl⟩, trivial⟩ rfl (.inr (flat_one (flat_map (fun _ => rfl) _))))
      | (have e : okT2 l x = false := (by simp_all [okT2, okW]; done); rw [e]; exact OutA_nil 4 1 55 3 rfl rfl (by decide) (OutA_ids rfl rfl rfl ⟨⟨_, _, _, rfl, rfl⟩, trivial⟩ rfl (.inr (flat_one (flat_map (fun _ => rfl) _)))))
  · have hg' : okLocks l = false := by simpa using hg
    refine pc_at Try.func36 rfl (by kernel_rfl) 19 [.tmp 4, .tmp 5] rfl rfl ?_
    repeat' (conv => whnf); first
      | refine nameB_true ?_
      | refine nameB_false ?_
      | refine nameB_yes (by assumption) ?_
      | refine nameB_no (by assumption) ?_
      | refine nameB_dyes (by assumption) ?_
      | refine nameB_dno (by assumption) ?_
      | (refine nameB_dec (fun h => ?_) (fun h => ?_) <;> try simp only [List.length_map, List.length_take, List.length_append, List.length_drop, List.length_set, markList_length, midL_len, mkL_length, Int.toNat_natCast, fact_byte] at h)
      | (refine nameB_cases (fun h => ?_) (fun h => ?_) <;> try simp only [bne_iff_ne, ne_eq, bne_eq_false_iff_eq, beq_iff_eq, beq_eq_false_iff_ne, Bool.not_eq_true', Bool.not_eq_false', Bool.or_eq_true, Bool.or_eq_false_iff, List.length_map, List.length_take, List.length_append, List.length_drop, List.length_set, markList_length, midL_len, mkL_length, Int.toNat_natCast, fact_byte] at h)
      | refine splitB_true ?_
      | refine splitB_false ?_
      | (refine splitB_intro (fun h => ?_) (fun h => ?_) <;> subst h)
      | refine ⟨⟨by kernel_rfl, by kernel_rfl, by kernel_rfl⟩, ?_⟩
      | (show Go.Ab.CallA _ _ _ _ _ _ _; first
          | refine Call0 (c_impl_GoodLocks l hok) rfl rfl ?_
          | refine Call0 (c_impl_isLock x hx) rfl rfl ?_)
      | refine ix_map_at hx ?_
      | refine ix_map_at hy ?_
      | refine sl_pre (by omega) (fun _ => rfl) ?_
      | refine sl_suf (by omega) (fun _ => rfl) ?_
      | (refine ix_map2 hx (by omega) (by (try simp only [List.length_take]); omega) (fun y hy => ?_); try simp only [Int.toNat_natCast] at hy)
      | (refine ix_map (by omega) (by (try simp only [List.length_take]); omega) (fun x hx => ?_); try simp only [Int.toNat_natCast] at hx)
      | refine side_and (side_of (by first | (and_intros <;> first | exact Nat.le_of_ble_eq_true rfl | rfl | omega | (simp only [List.length_map, List.length_append, List.length_replicate, List.length_take, List.length_cons, List.length_nil, List.length_drop, List.length_set, markList_length, midL_len, mkL_length]; omega) | exact bytes_ok (Nat.le_of_ble_eq_true rfl) (by omega) (by simp only [List.length_map, List.length_append, List.length_replicate, List.length_take, List.length_cons, List.length_nil, List.length_drop, List.length_set, markList_length, midL_len, mkL_length]; omega) | exact bytes_okN (Nat.le_of_ble_eq_true rfl) (by simp only [List.length_map, List.length_append, List.length_replicate, List.length_take, List.length_cons, List.length_nil, List.length_drop, List.length_set, markList_length, midL_len, mkL_length]; omega)) | fail)) ?_
      | refine nilB_intro (fun h => ?_) ?_
      | refine side_and (side_of (show Go.Ab.structOk _ _ = true by kernel_rfl)) ?_
      | refine side_and (side_of (map_len (fun _ => rfl))) ?_
      | refine side_and (side_of (map_one (fun _ => rfl) _)) ?_
      | refine side_and ?_ ?_
      | refine LoadK_of rfl rfl ?_
      | refine LoadD_cel rfl rfl rfl rfl ?_
      | refine LoadD_of rfl ?_
      | refine StoreD_of rfl rfl rfl ?_
      | refine AppD_of rfl (by and_intros <;> first | rfl | decide) (by simp only [List.length_map, List.length_append, List.length_take, List.length_cons, List.length_nil]; first | (refine ⟨by omega, ?_⟩; refine Nat.le_trans (Nat.mul_le_mul_left _ (show _ ≤ 512 by decide)) ?_; omega) | fail) ?_
      | refine AppN_of rfl rfl (by and_intros <;> rfl) (by simp only [List.length_map, List.length_append, List.length_take, List.length_cons, List.length_nil]; first | (refine ⟨by omega, ?_⟩; refine Nat.le_trans (Nat.mul_le_mul_left _ (show _ ≤ 512 by decide)) ?_; omega) | fail) ?_
      | (show False; omega)
    all_goals
      conv => whnf
      first
      | (have e : okT2 l x = false := (by simp_all [okT2, okW]; done); rw [e]; exact OutA_nil 4 1 55 3 rfl rfl (by decide) (OutA_ids rfl rfl rfl ⟨⟨_, _, _, rfl, rfl⟩, trivial⟩ rfl (.inr (flat_one (flat_map (fun _ => rfl) _)))))
      | (exfalso; simp_all; done)
theorem c_spec_TakeLock (l : List LockT) (x : LockT) (hok : okL LockT.ok l) (hx : x.ok) (hl : l.length ≤ 1048576) : PC Try.prog false 34 [.sl (l.map LockT.cells), .agg x.cells] (.tup [.own 0, .bool (okT2 l x)]) [⟨false, 55, 3, (takeR l x).map LockT.cells⟩] := by
  unfold takeR
  refine pc_at Try.func34 rfl (by kernel_rfl) 31 [.tmp 4, .tmp 5] rfl rfl ?_
  repeat' (conv => whnf); first
    | refine nameB_true ?_
    | refine nameB_false ?_
    | refine nameB_yes (by assumption) ?_
    | refine nameB_no (by assumption) ?_
    | refine nameB_dyes (by assumption) ?_
    | refine nameB_dno (by assumption) ?_
    | (refine nameB_dec (fun h => ?_) (fun h => ?_) <;> try simp only [List.length_map, List.length_take, List.length_append, List.length_drop, List.length_set, markList_length, midL_len, mkL_length, Int.toNat_natCast, fact_byte] at h)
    | (refine nameB_cases (fun h => ?_) (fun h => ?_) <;> try simp only [bne_iff_ne, ne_eq, bne_eq_false_iff_eq, beq_iff_eq, beq_eq_false_iff_ne, Bool.not_eq_true', Bool.not_eq_false', Bool.or_eq_true, Bool.or_eq_false_iff, List.length_map, List.length_take, List.length_append, List.length_drop, List.length_set, markList_length, midL_len, mkL_length, Int.toNat_natCast, fact_byte] at h)
    | refine splitB_true ?_
    | refine splitB_false ?_
    | (refine splitB_intro (fun h => ?_) (fun h => ?_) <;> subst h)
    | refine ⟨⟨by kernel_rfl, by kernel_rfl, by kernel_rfl⟩, ?_⟩
    | (show Go.Ab.CallA _ _ _ _ _ _ _; first
        | refine Call0 (c_spec_l12Good l hok) rfl rfl ?_
        | refine Call0 (c_spec_l12Lock x hx) rfl rfl ?_
        | refine CallT (c_spec_l12Waits l x (by omega)) rfl rfl rfl rfl (Nat.le_of_ble_eq_true rfl) ?_
        | refine CallF (c_spec_l12Take l x (by omega)) rfl rfl rfl (Nat.le_of_ble_eq_true rfl) ?_)
    | refine ix_map_at hx ?_
    | refine ix_map_at hy ?_
    | refine sl_pre (by omega) (fun _ => rfl) ?_
    | refine sl_suf (by omega) (fun _ => rfl) ?_
    | (refine ix_map2 hx (by omega) (by (try simp only [List.length_take]); omega) (fun y hy => ?_); try simp only [Int.toNat_natCast] at hy)
    | (refine ix_map (by omega) (by (try simp only [List.length_take]); omega) (fun x hx => ?_); try simp only [Int.toNat_natCast] at hx)
    | refine side_and (side_of (by first | (and_intros <;> first | exact Nat.le_of_ble_eq_true rfl | rfl | omega | (simp only [List.length_map, List.length_append, List.length_replicate, List.length_take, List.length_cons, List.length_nil, List.length_drop, List.length_set, markList_length, midL_len, mkL_length]; omega) | exact bytes_ok (Nat.le_of_ble_eq_true rfl) (by omega) (by simp only [List.length_map, List.length_append, List.length_replicate, List.length_take, List.length_cons, List.length_nil, List.length_drop, List.length_set, markList_length, midL_len, mkL_length]; omega) | exact bytes_okN (Nat.le_of_ble_eq_true rfl) (by simp only [List.length_map, List.length_append, List.length_replicate, List.length_take, List.length_cons, List.length_nil, List.length_drop, List.length_set, markList_length, midL_len, mkL_length]; omega)) | fail)) ?_
    | refine nilB_intro (fun h => ?_) ?_
    | refine side_and (side_of (show Go.Ab.structOk _ _ = true by kernel_rfl)) ?_
    | refine side_and (side_of (map_len (fun _ => rfl))) ?_
    | refine side_and (side_of (map_one (fun _ => rfl) _)) ?_
    | refine side_and ?_ ?_
    | refine LoadK_of rfl rfl ?_
    | refine LoadD_cel rfl rfl rfl rfl ?_
    | refine LoadD_of rfl ?_
    | refine StoreD_of rfl rfl rfl ?_
    | refine AppD_of rfl (by and_intros <;> first | rfl | decide) (by simp only [List.length_map, List.length_append, List.length_take, List.length_cons, List.length_nil]; first | (refine ⟨by omega, ?_⟩; refine Nat.le_trans (Nat.mul_le_mul_left _ (show _ ≤ 512 by decide)) ?_; omega) | fail) ?_
    | refine AppN_of rfl rfl (by and_intros <;> rfl) (by simp only [List.length_map, List.length_append, List.length_take, List.length_cons, List.length_nil]; first | (refine ⟨by omega, ?_⟩; refine Nat.le_trans (Nat.mul_le_mul_left _ (show _ ≤ 512 by decide)) ?_; omega) | fail) ?_
    | (show False; omega)
  all_goals
    conv => whnf
    first
    | (have e := okTk_yes (l := l) (x := x) (by assumption) (by assumption); have e2 : okT2 l x = true := (by simp_all [okT2, okW]; done); rw [e2]; exact OutA_ids rfl rfl rfl ⟨⟨_, _, _, rfl, rfl⟩, trivial⟩ rfl (.inr (flat_one (flat_map (fun _ => rfl) _))))
    | (have e : okT2 l x = false := (by first | (have e1 := okTk_no1 (l := l) (x := x) (by assumption); simp only [okT2, e1, Bool.and_false]) | (have e1 := okTk_no2 (l := l) (x := x) (by assumption); simp only [okT2, e1, Bool.and_false]) | (simp_all [okT2, okW]; done)); rw [e]; exact OutA_nil 4 1 55 3 rfl rfl (by decide) (OutA_ids rfl rfl rfl ⟨⟨_, _, _, rfl, rfl⟩, trivial⟩ rfl (.inr (flat_one (flat_map (fun _ => rfl) _)))))
end Go.Proofs.Ytpbabdnbbpgejaa
