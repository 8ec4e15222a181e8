/-
  What the functions that ask a state give: blocks, BlocksKey, MayLook; MayLook's law.
  No condition.
-/
import Derived.Test.YtbkjmcfkllljoaaGreatState11
namespace Go.Proofs.YtbkjmcfkllljoaaGreat
open Go.Ab
set_option linter.unusedSimpArgs false
set_option maxRecDepth 20000
set_option maxHeartbeats 4000000
set_option linter.unusedVariables false

theorem fil_yes {α β : Type} {p : α → Bool} {f : α → β} {C : β → List AV} {xs : List α} {k : Nat} {x : α} {L : List (List AV)} (hx : xs[k]? = some x) (hp : p x = true) (hL : L = [C (f x)]) : (((xs.take k).filter p).map f).map C ++ L = (((xs.take (k + 1)).filter p).map f).map C := by
  rw [hL, take_get hx, List.filter_append, List.map_append, List.map_append]
  simp [hp]
theorem fil_no {α β : Type} {p : α → Bool} {f : α → β} {C : β → List AV} {xs : List α} {k : Nat} {x : α} (hx : xs[k]? = some x) (hp : p x = false) : (((xs.take k).filter p).map f).map C = (((xs.take (k + 1)).filter p).map f).map C := by
  rw [take_get hx, List.filter_append]
  simp [hp]
theorem fil_end {α β : Type} {p : α → Bool} {f : α → β} {C : β → List AV} {xs : List α} {k : Nat} (hk : ¬ (k : Int) < xs.length) : (((xs.take k).filter p).map f).map C = ((xs.filter p).map f).map C := by rw [List.take_of_length_le (by omega)]
theorem fil_len {α β : Type} {p : α → Bool} {f : α → β} {C : β → List AV} {xs : List α} {k : Nat} (h : xs.length ≤ 1048576) : ((((xs.take k).filter p).map f).map C).length ≤ 2097152 := by
  rw [List.length_map, List.length_map]
  have h1 := List.length_filter_le p (xs.take k)
  rw [List.length_take] at h1
  omega
def blP (key : List UInt8) (time : Int) (h : HeldT) : Bool := wrote h.Writes key && decide (h.Time ≤ time)
def blI (key : List UInt8) (time : Int) (h : HeldT) : Bool := bsHit (wK key) h.Writes && decide (h.Time ≤ time)
def blocksS (s : StateT) (key : List UInt8) (time : Int) : List Int := (s.Held.filter (blP key time)).map HeldT.Txn
theorem blI_yes {key : List UInt8} {time : Int} {h : HeldT} (h1 : bsHit (wK key) h.Writes = true) (h2 : h.Time ≤ time) : blI key time h = true := by simp only [blI, h1, h2, decide_true, Bool.and_self]
theorem blI_no {key : List UInt8} {time : Int} {h : HeldT} (h1 : bsHit (wK key) h.Writes = false ∨ ¬ h.Time ≤ time) : blI key time h = false := by
  rcases h1 with h1 | h1 <;> simp only [blI, h1, decide_false, Bool.and_false, Bool.false_and]
theorem blP_yes {key : List UInt8} {time : Int} {h : HeldT} (h1 : wrote h.Writes key = true) (h2 : h.Time ≤ time) : blP key time h = true := by simp only [blP, h1, h2, decide_true, Bool.and_self]
theorem blP_no {key : List UInt8} {time : Int} {h : HeldT} (h1 : wrote h.Writes key = false ∨ ¬ h.Time ≤ time) : blP key time h = false := by
  rcases h1 with h1 | h1 <;> simp only [blP, h1, decide_false, Bool.and_false, Bool.false_and]
theorem c_impl_State_blocks (s : StateT) (key : List UInt8) (time : Int) (hok : s.ok) (hw : s.w ≤ 1048576) : PC Tryz.prog false 170 [.agg s.cells, .str key, .int .i64 time] (.own 0) [⟨false, 3, 1, ((s.Held.filter (blI key time)).map HeldT.Txn).map intC⟩] := by
  have hl := hok.2.2.1.1
  have hlw : s.Held.length ≤ 1048576 := by have h3 : s.w = wL CellT.w s.Cells + wL HeldT.w s.Held + s.Told.length := rfl; have := wL_len (w := HeldT.w) (xs := s.Held); omega
  refine pc_at Tryz.func170 rfl (by kernel_rfl) 41 [.tmp 6] rfl rfl ?_
  repeat' (conv => whnf); first
    | (refine nameB_cases (b := bsHit (wK key) x.Writes) (fun h => ?_) (fun h => ?_))
    | refine side_and (side_of (one_lenC rfl rfl)) ?_
    | refine side_and (side_of (by first | (and_intros <;> first | exact Nat.le_of_ble_eq_true rfl | rfl | (intro e; exact absurd (AV.own.inj e) (by decide)) | (intro e; exact AV.noConfusion e)) | fail)) ?_
    | refine side_and (side_of (app_boundC (L := (((s.Held.take k).filter (blI key time)).map HeldT.Txn).map intC) rfl (by (have hq := fil_len (p := blI key time) (f := HeldT.Txn) (C := intC) (xs := s.Held) (k := k) hlw; omega)) (Nat.le_of_ble_eq_true rfl))) ?_
    | refine nameB_true ?_
    | refine nameB_false ?_
    | refine nameB_yes (by assumption) ?_
    | refine nameB_no (by assumption) ?_
    | refine nameB_dyes (by assumption) ?_
    | refine nameB_dno (by assumption) ?_
    | (refine nameB_dec (fun h => ?_) (fun h => ?_) <;> try simp only [List.length_map, List.length_take, List.length_append, List.length_drop, List.length_set, markList_length, midL_len, mkL_length, Int.toNat_natCast, fact_byte] at h)
    | (refine nameB_cases (fun h => ?_) (fun h => ?_) <;> try simp only [bne_iff_ne, ne_eq, bne_eq_false_iff_eq, beq_iff_eq, beq_eq_false_iff_ne, Bool.not_eq_true', Bool.not_eq_false', Bool.or_eq_true, Bool.or_eq_false_iff, List.length_map, List.length_take, List.length_append, List.length_drop, List.length_set, markList_length, midL_len, mkL_length, Int.toNat_natCast, fact_byte] at h)
    | refine splitB_true ?_
    | refine splitB_false ?_
    | (refine splitB_intro (fun h => ?_) (fun h => ?_) <;> subst h)
    | refine draw_text (by kernel_rfl) (by kernel_rfl) (by kernel_rfl) ?_
    | refine both_intro ?_ ?_
    | exact True.intro
    | (show Go.Ab.Loop _ _ _; (refine Loop_nil 7 1 3 1 rfl rfl (by decide) ?_; refine Loop_at [1, 2, 14, 15] [] (Nat) (fun k => k ≤ s.Held.length) (fun k => [(16, .int .i64 (k : Nat)), (7, .own 1)]) (fun k => [(1, ⟨false, 3, 1, (((s.Held.take k).filter (blI key time)).map HeldT.Txn).map intC⟩)]) (fun k => s.Held.length - k) 0 ⟨by first | (simp_all <;> fail) | rfl | fail, by first | rfl | (simp_all <;> fail) | fail, trivial⟩ ⟨by first | rfl | first | exact congrArg (fun e => some (AObj.mk false _ _ e)) (fil_yes (p := blI key time) (f := HeldT.Txn) (C := intC) hx (blI_yes (by assumption) (by assumption)) rfl) | exact congrArg (fun e => some (AObj.mk false _ _ e)) (fil_no (p := blI key time) (f := HeldT.Txn) (C := intC) hx (blI_no (.inl (by assumption)))) | exact congrArg (fun e => some (AObj.mk false _ _ e)) (fil_no (p := blI key time) (f := HeldT.Txn) (C := intC) hx (blI_no (.inr (by assumption)))) | fail | fail, trivial⟩ (by (try dsimp only); first | (exact Nat.zero_le _) | fail) ?_; (conv => whnf); refine side_and (side_of (by first | exact fun k => rfl | exact fun k => by simp [headOk, closedE, closedO, closedL, AV.closed, hcap.closed, hasId])) ?_; rintro k hT; try dsimp only at hT))
    | (show Go.Ab.Again _ _ _ _ _ _ _ _ _ _ _; refine Again_of (k + 1) ⟨by first | rfl | exact i64_next (by omega) | (simp_all <;> fail) | fail, by first | rfl | (simp_all <;> fail) | fail, trivial⟩ ⟨by first | rfl | first | exact congrArg (fun e => some (AObj.mk false _ _ e)) (fil_yes (p := blI key time) (f := HeldT.Txn) (C := intC) hx (blI_yes (by assumption) (by assumption)) rfl) | exact congrArg (fun e => some (AObj.mk false _ _ e)) (fil_no (p := blI key time) (f := HeldT.Txn) (C := intC) hx (blI_no (.inl (by assumption)))) | exact congrArg (fun e => some (AObj.mk false _ _ e)) (fil_no (p := blI key time) (f := HeldT.Txn) (C := intC) hx (blI_no (.inr (by assumption)))) | fail | fail, trivial⟩ (by first | (and_intros <;> first | rfl | trivial) | fail) (by first | (and_intros <;> first | rfl | trivial) | fail) rfl rfl rfl (by (try dsimp only); first | ((show k + 1 ≤ _; omega)) | fail) (show _ < _ by (try dsimp only); omega))
    | (show Go.Ab.CallA _ _ _ _ _ _ _; refine Call0 (c_impl_findWrite x.Writes key (hok.2.2.1.2 x (List.mem_of_getElem? hx)).2.2.2.2.1) rfl rfl ?_)
    | refine ix_map_at hx ?_
    | refine ix_map_at hy ?_
    | refine sl_pre (by omega) (fun _ => rfl) ?_
    | refine sl_suf (by omega) (fun _ => rfl) ?_
    | (refine ix_map2 hx (by omega) (by (try simp only [List.length_take]); omega) (fun y hy => ?_); try simp only [Int.toNat_natCast] at hy)
    | (refine ix_map (by omega) (by (try simp only [List.length_take]); omega) (fun x hx => ?_); try simp only [Int.toNat_natCast] at hx)
    | refine side_and (side_of (by first | (and_intros <;> first | exact Nat.le_of_ble_eq_true rfl | rfl | omega | (simp only [List.length_map, List.length_append, List.length_replicate, List.length_take, List.length_cons, List.length_nil, List.length_drop, List.length_set, markList_length, midL_len, mkL_length]; omega) | exact bytes_ok (Nat.le_of_ble_eq_true rfl) (by omega) (by simp only [List.length_map, List.length_append, List.length_replicate, List.length_take, List.length_cons, List.length_nil, List.length_drop, List.length_set, markList_length, midL_len, mkL_length]; omega) | exact bytes_okN (Nat.le_of_ble_eq_true rfl) (by simp only [List.length_map, List.length_append, List.length_replicate, List.length_take, List.length_cons, List.length_nil, List.length_drop, List.length_set, markList_length, midL_len, mkL_length]; omega)) | fail)) ?_
    | refine nilB_intro (fun h => ?_) ?_
    | refine side_and (side_of (show Go.Ab.structOk _ _ = true by kernel_rfl)) ?_
    | refine side_and (side_of (map_len (fun _ => rfl))) ?_
    | refine side_and (side_of (map_one (fun _ => rfl) _)) ?_
    | refine side_and ?_ ?_
    | refine LoadK_of rfl rfl ?_
    | refine LoadD_cel rfl rfl rfl rfl ?_
    | refine LoadD_of rfl ?_
    | refine StoreD_of rfl rfl rfl ?_
    | refine AppD_of rfl (by and_intros <;> first | rfl | decide) (by simp only [List.length_map, List.length_append, List.length_take, List.length_cons, List.length_nil]; first | (refine ⟨by omega, ?_⟩; refine Nat.le_trans (Nat.mul_le_mul_left _ (show _ ≤ 512 by decide)) ?_; omega) | fail) ?_
    | refine AppN_of rfl rfl (by and_intros <;> rfl) (by simp only [List.length_map, List.length_append, List.length_take, List.length_cons, List.length_nil]; first | (refine ⟨by omega, ?_⟩; refine Nat.le_trans (Nat.mul_le_mul_left _ (show _ ≤ 512 by decide)) ?_; omega) | fail) ?_
    | (show False; omega)
  all_goals
    conv => whnf
    refine OutA_ids rfl rfl rfl ⟨⟨_, _, _, rfl, congrArg (AObj.mk false _ _) ?_⟩, trivial⟩ rfl (.inr (flat_one (flat_map (fun _ => rfl) _)))
    exact (fil_end (p := blI key time) (f := HeldT.Txn) (C := intC) (by assumption)).symm
theorem c_spec_l13Blocks (s : StateT) (key : List UInt8) (time : Int) (hok : s.ok) (hw : s.w ≤ 1048576) : PC Tryz.prog false 167 [.agg s.cells, .str key, .int .i64 time] (.own 0) [⟨false, 3, 1, (blocksS s key time).map intC⟩] := by
  have hl := hok.2.2.1.1
  have hlw : s.Held.length ≤ 1048576 := by have h3 : s.w = wL CellT.w s.Cells + wL HeldT.w s.Held + s.Told.length := rfl; have := wL_len (w := HeldT.w) (xs := s.Held); omega
  refine pc_at Tryz.func167 rfl (by kernel_rfl) 34 [.tmp 6] rfl rfl ?_
  repeat' (conv => whnf); first
    | (refine nameB_cases (b := wrote x.Writes key) (fun h => ?_) (fun h => ?_))
    | refine side_and (side_of (one_lenC rfl rfl)) ?_
    | refine side_and (side_of (by first | (and_intros <;> first | exact Nat.le_of_ble_eq_true rfl | rfl | (intro e; exact absurd (AV.own.inj e) (by decide)) | (intro e; exact AV.noConfusion e)) | fail)) ?_
    | refine side_and (side_of (app_boundC (L := (((s.Held.take k).filter (blP key time)).map HeldT.Txn).map intC) rfl (by (have hq := fil_len (p := blP key time) (f := HeldT.Txn) (C := intC) (xs := s.Held) (k := k) hlw; omega)) (Nat.le_of_ble_eq_true rfl))) ?_
    | refine nameB_true ?_
    | refine nameB_false ?_
    | refine nameB_yes (by assumption) ?_
    | refine nameB_no (by assumption) ?_
    | refine nameB_dyes (by assumption) ?_
    | refine nameB_dno (by assumption) ?_
    | (refine nameB_dec (fun h => ?_) (fun h => ?_) <;> try simp only [List.length_map, List.length_take, List.length_append, List.length_drop, List.length_set, markList_length, midL_len, mkL_length, Int.toNat_natCast, fact_byte] at h)
    | (refine nameB_cases (fun h => ?_) (fun h => ?_) <;> try simp only [bne_iff_ne, ne_eq, bne_eq_false_iff_eq, beq_iff_eq, beq_eq_false_iff_ne, Bool.not_eq_true', Bool.not_eq_false', Bool.or_eq_true, Bool.or_eq_false_iff, List.length_map, List.length_take, List.length_append, List.length_drop, List.length_set, markList_length, midL_len, mkL_length, Int.toNat_natCast, fact_byte] at h)
    | refine splitB_true ?_
    | refine splitB_false ?_
    | (refine splitB_intro (fun h => ?_) (fun h => ?_) <;> subst h)
    | refine draw_text (by kernel_rfl) (by kernel_rfl) (by kernel_rfl) ?_
    | refine both_intro ?_ ?_
    | exact True.intro
    | (show Go.Ab.Loop _ _ _; (refine Loop_nil 7 1 3 1 rfl rfl (by decide) ?_; refine Loop_at [1, 2, 11, 12] [] (Nat) (fun k => k ≤ s.Held.length) (fun k => [(13, .int .i64 (k : Nat)), (7, .own 1)]) (fun k => [(1, ⟨false, 3, 1, (((s.Held.take k).filter (blP key time)).map HeldT.Txn).map intC⟩)]) (fun k => s.Held.length - k) 0 ⟨by first | (simp_all <;> fail) | rfl | fail, by first | rfl | (simp_all <;> fail) | fail, trivial⟩ ⟨by first | rfl | first | exact congrArg (fun e => some (AObj.mk false _ _ e)) (fil_yes (p := blP key time) (f := HeldT.Txn) (C := intC) hx (blP_yes (by assumption) (by assumption)) rfl) | exact congrArg (fun e => some (AObj.mk false _ _ e)) (fil_no (p := blP key time) (f := HeldT.Txn) (C := intC) hx (blP_no (.inl (by assumption)))) | exact congrArg (fun e => some (AObj.mk false _ _ e)) (fil_no (p := blP key time) (f := HeldT.Txn) (C := intC) hx (blP_no (.inr (by assumption)))) | fail | fail, trivial⟩ (by (try dsimp only); first | (exact Nat.zero_le _) | fail) ?_; (conv => whnf); refine side_and (side_of (by first | exact fun k => rfl | exact fun k => by simp [headOk, closedE, closedO, closedL, AV.closed, hcap.closed, hasId])) ?_; rintro k hT; try dsimp only at hT))
    | (show Go.Ab.Again _ _ _ _ _ _ _ _ _ _ _; refine Again_of (k + 1) ⟨by first | rfl | exact i64_next (by omega) | (simp_all <;> fail) | fail, by first | rfl | (simp_all <;> fail) | fail, trivial⟩ ⟨by first | rfl | first | exact congrArg (fun e => some (AObj.mk false _ _ e)) (fil_yes (p := blP key time) (f := HeldT.Txn) (C := intC) hx (blP_yes (by assumption) (by assumption)) rfl) | exact congrArg (fun e => some (AObj.mk false _ _ e)) (fil_no (p := blP key time) (f := HeldT.Txn) (C := intC) hx (blP_no (.inl (by assumption)))) | exact congrArg (fun e => some (AObj.mk false _ _ e)) (fil_no (p := blP key time) (f := HeldT.Txn) (C := intC) hx (blP_no (.inr (by assumption)))) | fail | fail, trivial⟩ (by first | (and_intros <;> first | rfl | trivial) | fail) (by first | (and_intros <;> first | rfl | trivial) | fail) rfl rfl rfl (by (try dsimp only); first | ((show k + 1 ≤ _; omega)) | fail) (show _ < _ by (try dsimp only); omega))
    | (show Go.Ab.CallA _ _ _ _ _ _ _; refine Call0 (c_spec_l13Wrote x.Writes key (hok.2.2.1.2 x (List.mem_of_getElem? hx)).2.2.2.2.1) rfl rfl ?_)
    | refine ix_map_at hx ?_
    | refine ix_map_at hy ?_
    | refine sl_pre (by omega) (fun _ => rfl) ?_
    | refine sl_suf (by omega) (fun _ => rfl) ?_
    | (refine ix_map2 hx (by omega) (by (try simp only [List.length_take]); omega) (fun y hy => ?_); try simp only [Int.toNat_natCast] at hy)
    | (refine ix_map (by omega) (by (try simp only [List.length_take]); omega) (fun x hx => ?_); try simp only [Int.toNat_natCast] at hx)
    | refine side_and (side_of (by first | (and_intros <;> first | exact Nat.le_of_ble_eq_true rfl | rfl | omega | (simp only [List.length_map, List.length_append, List.length_replicate, List.length_take, List.length_cons, List.length_nil, List.length_drop, List.length_set, markList_length, midL_len, mkL_length]; omega) | exact bytes_ok (Nat.le_of_ble_eq_true rfl) (by omega) (by simp only [List.length_map, List.length_append, List.length_replicate, List.length_take, List.length_cons, List.length_nil, List.length_drop, List.length_set, markList_length, midL_len, mkL_length]; omega) | exact bytes_okN (Nat.le_of_ble_eq_true rfl) (by simp only [List.length_map, List.length_append, List.length_replicate, List.length_take, List.length_cons, List.length_nil, List.length_drop, List.length_set, markList_length, midL_len, mkL_length]; omega)) | fail)) ?_
    | refine nilB_intro (fun h => ?_) ?_
    | refine side_and (side_of (show Go.Ab.structOk _ _ = true by kernel_rfl)) ?_
    | refine side_and (side_of (map_len (fun _ => rfl))) ?_
    | refine side_and (side_of (map_one (fun _ => rfl) _)) ?_
    | refine side_and ?_ ?_
    | refine LoadK_of rfl rfl ?_
    | refine LoadD_cel rfl rfl rfl rfl ?_
    | refine LoadD_of rfl ?_
    | refine StoreD_of rfl rfl rfl ?_
    | refine AppD_of rfl (by and_intros <;> first | rfl | decide) (by simp only [List.length_map, List.length_append, List.length_take, List.length_cons, List.length_nil]; first | (refine ⟨by omega, ?_⟩; refine Nat.le_trans (Nat.mul_le_mul_left _ (show _ ≤ 512 by decide)) ?_; omega) | fail) ?_
    | refine AppN_of rfl rfl (by and_intros <;> rfl) (by simp only [List.length_map, List.length_append, List.length_take, List.length_cons, List.length_nil]; first | (refine ⟨by omega, ?_⟩; refine Nat.le_trans (Nat.mul_le_mul_left _ (show _ ≤ 512 by decide)) ?_; omega) | fail) ?_
    | (show False; omega)
  all_goals
    conv => whnf
    refine OutA_ids rfl rfl rfl ⟨⟨_, _, _, rfl, congrArg (AObj.mk false _ _) ?_⟩, trivial⟩ rfl (.inr (flat_one (flat_map (fun _ => rfl) _)))
    exact (fil_end (p := blP key time) (f := HeldT.Txn) (C := intC) (by assumption)).symm
theorem okState_writes {s : StateT} (h : okStateS s = true) {x : HeldT} (hx : x ∈ s.Held) : okWrites x.Writes = true := by
  rw [← okState_eq] at h
  simp only [okStateI, areHeldI, Bool.and_eq_true] at h
  obtain ⟨pre, hp⟩ := allPre_mem h.1.1.2.1 hx
  simp only [heldI, Bool.and_eq_true] at hp
  exact okRec_writes hp.1.1.1.1
theorem blocks_eq {s : StateT} (h : okStateS s = true) (key : List UInt8) (time : Int) : (s.Held.filter (blI key time)).map HeldT.Txn = blocksS s key time := by
  unfold blocksS
  congr 1
  refine List.filter_congr fun x hx => ?_
  unfold blI blP
  rw [hit_wrote (okState_writes h hx)]
def okAsk (s : StateT) (key : List UInt8) (time : Int) : Bool := okStateS s && okKey key && inB 0 time 100000
theorem c_impl_BlocksKey_yes (s : StateT) (key : List UInt8) (time : Int) (hok : s.ok) (hk : okS key) (hw : s.w ≤ 1048576) (h : okAsk s key time = true) : PC Tryz.prog false 78 [.agg s.cells, .str key, .int .i64 time] (.tup [.own 0, .bool true]) [⟨false, 3, 1, (blocksS s key time).map intC⟩] := by
  have h3 : okStateS s = true ∧ okKey key = true ∧ inB 0 time 100000 = true := by simp only [okAsk, Bool.and_eq_true] at h; exact ⟨h.1.1, h.1.2, h.2⟩
  have hb := c_impl_State_blocks s key time hok hw
  rw [blocks_eq h3.1] at hb
  refine pc_at Tryz.func78 rfl (by kernel_rfl) 25 [.tmp 6, .tmp 7] rfl rfl ?_
  repeat' (conv => whnf); first
    | refine nameB_yes (b := okStateS s) h3.1 ?_
    | refine nameB_yes (b := okKey key) h3.2.1 ?_
    | refine nameB_yes (b := inB 0 time 100000) h3.2.2 ?_
    | refine nameB_true ?_
    | refine nameB_false ?_
    | refine nameB_yes (by assumption) ?_
    | refine nameB_no (by assumption) ?_
    | refine nameB_dyes (by assumption) ?_
    | refine nameB_dno (by assumption) ?_
    | (refine nameB_dec (fun h => ?_) (fun h => ?_) <;> try simp only [List.length_map, List.length_take, List.length_append, List.length_drop, List.length_set, markList_length, midL_len, mkL_length, Int.toNat_natCast, fact_byte] at h)
    | (refine nameB_cases (fun h => ?_) (fun h => ?_) <;> try simp only [bne_iff_ne, ne_eq, bne_eq_false_iff_eq, beq_iff_eq, beq_eq_false_iff_ne, Bool.not_eq_true', Bool.not_eq_false', Bool.or_eq_true, Bool.or_eq_false_iff, List.length_map, List.length_take, List.length_append, List.length_drop, List.length_set, markList_length, midL_len, mkL_length, Int.toNat_natCast, fact_byte] at h)
    | refine splitB_true ?_
    | refine splitB_false ?_
    | (refine splitB_intro (fun h => ?_) (fun h => ?_) <;> subst h)
    | refine draw_text (by kernel_rfl) (by kernel_rfl) (by kernel_rfl) ?_
    | refine both_intro ?_ ?_
    | exact True.intro
    | (show Go.Ab.CallA _ _ _ _ _ _ _; first
        | refine Call0 (c_impl_GoodState2 s hok hw) rfl rfl ?_
        | refine Call0 (c_impl_GoodKey key hk) rfl rfl ?_
        | refine Call0 (c_impl_isTrue6 ..) rfl rfl ?_
        | refine CallF (hb) rfl rfl rfl (Nat.le_of_ble_eq_true rfl) ?_)
    | refine ix_map_at hx ?_
    | refine ix_map_at hy ?_
    | refine sl_pre (by omega) (fun _ => rfl) ?_
    | refine sl_suf (by omega) (fun _ => rfl) ?_
    | (refine ix_map2 hx (by omega) (by (try simp only [List.length_take]); omega) (fun y hy => ?_); try simp only [Int.toNat_natCast] at hy)
    | (refine ix_map (by omega) (by (try simp only [List.length_take]); omega) (fun x hx => ?_); try simp only [Int.toNat_natCast] at hx)
    | refine side_and (side_of (by first | (and_intros <;> first | exact Nat.le_of_ble_eq_true rfl | rfl | omega | (simp only [List.length_map, List.length_append, List.length_replicate, List.length_take, List.length_cons, List.length_nil, List.length_drop, List.length_set, markList_length, midL_len, mkL_length]; omega) | exact bytes_ok (Nat.le_of_ble_eq_true rfl) (by omega) (by simp only [List.length_map, List.length_append, List.length_replicate, List.length_take, List.length_cons, List.length_nil, List.length_drop, List.length_set, markList_length, midL_len, mkL_length]; omega) | exact bytes_okN (Nat.le_of_ble_eq_true rfl) (by simp only [List.length_map, List.length_append, List.length_replicate, List.length_take, List.length_cons, List.length_nil, List.length_drop, List.length_set, markList_length, midL_len, mkL_length]; omega)) | fail)) ?_
    | refine nilB_intro (fun h => ?_) ?_
    | refine side_and (side_of (show Go.Ab.structOk _ _ = true by kernel_rfl)) ?_
    | refine side_and (side_of (map_len (fun _ => rfl))) ?_
    | refine side_and (side_of (map_one (fun _ => rfl) _)) ?_
    | refine side_and ?_ ?_
    | refine LoadK_of rfl rfl ?_
    | refine LoadD_cel rfl rfl rfl rfl ?_
    | refine LoadD_of rfl ?_
    | refine StoreD_of rfl rfl rfl ?_
    | refine AppD_of rfl (by and_intros <;> first | rfl | decide) (by simp only [List.length_map, List.length_append, List.length_take, List.length_cons, List.length_nil]; first | (refine ⟨by omega, ?_⟩; refine Nat.le_trans (Nat.mul_le_mul_left _ (show _ ≤ 512 by decide)) ?_; omega) | fail) ?_
    | refine AppN_of rfl rfl (by and_intros <;> rfl) (by simp only [List.length_map, List.length_append, List.length_take, List.length_cons, List.length_nil]; first | (refine ⟨by omega, ?_⟩; refine Nat.le_trans (Nat.mul_le_mul_left _ (show _ ≤ 512 by decide)) ?_; omega) | fail) ?_
    | (show False; omega)
  all_goals
    conv => whnf
    exact OutA_ids rfl rfl rfl ⟨⟨_, _, _, rfl, rfl⟩, trivial⟩ rfl (.inr (flat_one (flat_map (fun _ => rfl) _)))
def mayL (s : StateT) (key : List UInt8) (time : Int) : Bool := okAsk s key time && decide (((blocksS s key time).length : Int) = 0)
end Go.Proofs.YtbkjmcfkllljoaaGreat
