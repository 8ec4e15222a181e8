/-
  What PartsOf gives.
  No condition.
-/
import Derived.Test.YtgkghkcahepicaaGreatOrders
import Derived.Test.YtgkghkcahepicaaGreatParts
import Derived.Test.YtgkghkcahepicaaGreatLocks4
namespace Go.Proofs.YtgkghkcahepicaaGreat
open Go.Ab
set_option linter.unusedSimpArgs false
set_option maxRecDepth 20000
set_option maxHeartbeats 4000000
set_option linter.unusedVariables false

theorem compS_sub (ss : List (List UInt8)) : (compS ss).Sublist ss := by
  unfold compS Lib.compact Lib.compactUpTo
  have h1 : ((List.range ss.length).filter (Lib.keeps ss.toArray)).Sublist (List.range ss.length) := List.filter_sublist
  have h2 := h1.map (fun j => ss.toArray[j]!)
  have e : (List.range ss.length).map (fun j => ss.toArray[j]!) = ss := by
    refine List.ext_getElem (by simp) fun i h h' => ?_
    simp only [List.getElem_map, List.getElem_range]
    rw [getElem!_pos _ i (by simpa using h')]
    simp
  rw [e] at h2
  exact h2
theorem keys_strict (ks : List (List UInt8)) : (compS (sortS ks)).Pairwise fun a b => Op.bytesLess a b = true := by
  have h1 := (sortS_le ks).sublist (compS_sub (sortS ks))
  have h2 := compS_nodup ks
  refine (h1.and h2).imp fun {a b} h => ?_
  rw [decide_eq_true_eq] at h
  rw [bytesLess_eq]
  refine decide_eq_true ?_
  rcases List.le_iff_lt_or_eq.1 h.1 with h3 | h3
  · exact h3
  · exact absurd h3 h.2
theorem keys_eq (ks : List (List UInt8)) : compS (sortS ks) = ks.foldl putS [] := by
  have h1 := keys_strict ks
  obtain ⟨h2, h3⟩ := fold_put ks [] (by simp)
  refine List.Perm.eq_of_pairwise (le := fun a b => Op.bytesLess a b = true) (fun a b _ _ h h' => ?_) h1 h2 ((List.perm_ext_iff_of_nodup (compS_nodup _) (pair_nodup h2)).2 fun x => ?_)
  · have := bl_tr h h'
    rw [bl_irr] at this
    cases this
  · rw [compS_mem, sortS_mem, h3]; simp
/-! Numbers. -/
theorem tw_all {acc : List Int} {y : Int} (h : ∀ x ∈ acc, x < y) : acc.takeWhile (fun x => decide (x < y)) = acc := by
  induction acc with
  | nil => rfl
  | cons a l ih =>
    rw [List.takeWhile_cons_of_pos (by simpa using h a (by simp)), ih (fun x hx => h x (List.mem_cons_of_mem _ hx))]
theorem putI_gt {acc : List Int} {y : Int} (h : ∀ x ∈ acc, x < y) : putI acc y = acc ++ [y] := by
  have e : cntI y acc = acc.length := by unfold cntI; rw [tw_all h]
  unfold putI
  rw [e, if_neg (by rw [List.getElem?_eq_none (Nat.le_refl _)]; simp)]
  simp
theorem cnt_at {acc : List Int} {y : Int} (hs : acc.Pairwise (· < ·)) (hm : y ∈ acc) : acc[cntI y acc]? = some y := by
  induction acc with
  | nil => cases hm
  | cons a l ih =>
    rw [List.pairwise_cons] at hs
    unfold cntI
    by_cases h : a < y
    · rw [List.takeWhile_cons_of_pos (by simpa using h), List.length_cons, List.getElem?_cons_succ]
      rcases List.mem_cons.1 hm with e | hm
      · omega
      · exact ih hs.2 hm
    · rw [List.takeWhile_cons_of_neg (by simpa using h)]
      rcases List.mem_cons.1 hm with e | hm
      · simp [e]
      · have := hs.1 y hm; omega
theorem putI_mem {acc : List Int} {y : Int} (hs : acc.Pairwise (· < ·)) (hm : y ∈ acc) : putI acc y = acc := by
  unfold putI
  rw [if_pos (cnt_at hs hm)]
theorem compI_go {ys : List Int} (hs : ys.Pairwise (· ≤ ·)) : ∀ m, m ≤ ys.length → Lib.compactUpTo ys.toArray m = (ys.take m).foldl putI [] ∧ ((ys.take m).foldl putI []).Pairwise (· < ·) ∧ (∀ x ∈ (ys.take m).foldl putI [], x ∈ ys.take m) ∧ (∀ k z, m = k + 1 → ys[k]? = some z → z ∈ (ys.take m).foldl putI [])
  | 0, _ => ⟨by simp [Lib.compactUpTo], by simp, by simp, fun k z h => by omega⟩
  | m + 1, hm => by
    obtain ⟨h1, h2, h3, h4⟩ := compI_go hs m (by omega)
    have hy : ys[m]? = some ys[m] := List.getElem?_eq_getElem (by omega)
    rw [Lib.compactUpTo_succ, h1, take_get hy, List.foldl_append]
    have ed : ys.toArray[m]! = ys[m] := by rw [getElem!_pos _ m (by simp; omega)]; simp
    show _ = putI ((ys.take m).foldl putI []) ys[m] ∧ (putI ((ys.take m).foldl putI []) ys[m]).Pairwise (· < ·) ∧ (∀ x ∈ putI ((ys.take m).foldl putI []) ys[m], _) ∧ _
    have hle : ∀ x ∈ (ys.take m).foldl putI [], x ≤ ys[m] := by
      intro x hx
      obtain ⟨j, hj, e⟩ := List.getElem_of_mem (h3 x hx)
      rw [List.length_take] at hj
      rw [List.getElem_take] at e
      have := List.pairwise_iff_getElem.1 hs j m (by omega) (by omega) (by omega)
      omega
    by_cases hin : ys[m] ∈ (ys.take m).foldl putI []
    · have e := putI_mem h2 hin
      have hk : Lib.keeps ys.toArray m = false := by
        unfold Lib.keeps
        rw [decide_eq_false_iff_not]
        rintro (h | h)
        · subst h; simp at hin
        · obtain ⟨k, rfl⟩ : ∃ k, m = k + 1 := by
            cases m with
            | zero => simp at hin
            | succ k => exact ⟨k, rfl⟩
          apply h
          rw [ed]
          have ek : ys.toArray[k + 1 - 1]! = ys[k] := by rw [getElem!_pos _ (k + 1 - 1) (by simp; omega)]; simp
          rw [ek]
          have hz := h4 k ys[k] rfl (List.getElem?_eq_getElem (by omega))
          have a1 := hle _ hz
          obtain ⟨j, hj, e2⟩ := List.getElem_of_mem (h3 _ hin)
          rw [List.length_take] at hj
          rw [List.getElem_take] at e2
          have a2 : ys[j] ≤ ys[k] := by
            by_cases hjk : j = k
            · subst hjk; omega
            · exact List.pairwise_iff_getElem.1 hs j k (by omega) (by omega) (by omega)
          omega
      rw [hk, e]
      refine ⟨by simp, h2, fun x hx => List.mem_append_left _ (h3 x hx), fun k z hk hz => ?_⟩
      obtain rfl : m = k := by omega
      rw [hy] at hz; cases hz
      show ys[m] ∈ putI ((ys.take m).foldl putI []) ys[m]
      rw [e]; exact hin
    · have hlt : ∀ x ∈ (ys.take m).foldl putI [], x < ys[m] := by
        intro x hx
        have h5 := hle x hx
        by_cases h6 : x = ys[m]
        · rw [h6] at hx; exact absurd hx hin
        · omega
      have e := putI_gt hlt
      have hk : Lib.keeps ys.toArray m = true := by
        unfold Lib.keeps
        rw [decide_eq_true_eq]
        by_cases h0 : m = 0
        · exact .inl h0
        · refine .inr fun h => ?_
          obtain ⟨k, rfl⟩ : ∃ k, m = k + 1 := ⟨m - 1, by omega⟩
          have ek : ys.toArray[k + 1 - 1]! = ys[k] := by rw [getElem!_pos _ (k + 1 - 1) (by simp; omega)]; simp
          rw [ed, ek] at h
          have hz := h4 k ys[k] rfl (List.getElem?_eq_getElem (by omega))
          have := hlt _ hz
          omega
      rw [hk, e, ed]
      refine ⟨by simp, ?_, fun x hx => ?_, fun k z hk hz => ?_⟩
      · rw [List.pairwise_append]
        exact ⟨h2, by simp, fun a ha b hb => by rw [List.mem_singleton] at hb; rw [hb]; exact hlt a ha⟩
      · rcases List.mem_append.1 hx with hx | hx
        · exact List.mem_append_left _ (h3 x hx)
        · exact List.mem_append_right _ hx
      · obtain rfl : m = k := by omega
        rw [hy] at hz; cases hz
        show ys[m] ∈ putI ((ys.take m).foldl putI []) ys[m]
        rw [e]; simp
theorem compI_eq {ys : List Int} (hs : ys.Pairwise (· ≤ ·)) : compI ys = ys.foldl putI [] := by
  have h := (compI_go hs ys.length (Nat.le_refl _)).1
  rw [List.take_length] at h
  exact h
/-! The keys of an order, and its groups. -/
def keysO (reads : List (List UInt8)) (ws : List WriteT) : List (List UInt8) := reads ++ ws.map WriteT.Key
def pS (xs : List (List UInt8)) (k : List UInt8) : Int := (takeN k xs : Nat)
def pI (xs : List (List UInt8)) (k : List UInt8) : Int := (partN k xs : Nat)
theorem c_Clone_string (xs : List (List UInt8)) (hl : xs.length ≤ 1048576) : PC Tryz.prog false 81 [.sl (xs.map strC)] (.own 0) [⟨false, 9, 1, xs.map strC⟩] := by
  refine pc_at Tryz.func81 rfl (by kernel_rfl) 8 [.tmp 2] rfl rfl ?_
  repeat' (conv => whnf); first
    | refine splitB_true ?_
    | refine splitB_false ?_
    | refine side_and (side_of (by first | (and_intros <;> first | exact Nat.le_of_ble_eq_true rfl | rfl | omega | (simp only [lensB, lensC, List.length_replicate, midL_len, mkL_length]; omega) | exact bytes_ok (Nat.le_of_ble_eq_true rfl) (by omega) (by simp only [lensB, lensC, List.length_replicate, midL_len, mkL_length]; omega) | exact bytes_okN (Nat.le_of_ble_eq_true rfl) (by simp only [lensB, lensC, List.length_replicate, midL_len, mkL_length]; omega)) | fail)) ?_
    | refine nilB_intro (fun h => ?_) ?_
    | refine side_and (side_of (map_len (fun _ => rfl))) ?_
    | refine side_and (side_of (map_one (fun _ => rfl) _)) ?_
  all_goals
    conv => whnf
    first
    | exact OutA_ids rfl rfl rfl ⟨⟨_, _, _, rfl, rfl⟩, trivial⟩ rfl (.inr (flat_one (flat_map (fun _ => rfl) _)))
    | exact OutA_nil 2 1 9 1 rfl rfl (by decide) (OutA_ids rfl rfl rfl ⟨⟨_, _, _, rfl, congrArg (AObj.mk _ _ _) (map_nil_of (by assumption))⟩, trivial⟩ rfl (.inr (flat_one (flat_map (fun _ => rfl) _))))
theorem keysO_len {reads : List (List UInt8)} {ws : List WriteT} (h1 : reads.length ≤ 1048576) (h2 : ws.length ≤ 1048576) : (keysO reads ws).length ≤ 2097152 := by unfold keysO; simp; omega
theorem keysO_map {reads : List (List UInt8)} {ws : List WriteT} : reads.map strC ++ (ws.map WriteT.Key).map strC = (keysO reads ws).map strC := by unfold keysO; rw [List.map_append]
theorem c_impl_keysOf (reads : List (List UInt8)) (ws : List WriteT) (h1 : reads.length ≤ 1048576) (h2 : ws.length ≤ 1048576) : PC Tryz.prog false 135 [.sl (reads.map strC), .sl (ws.map WriteT.cells)] (.own 0) [⟨false, 9, 1, (compS (sortS (keysO reads ws))).map strC⟩] := by
  refine pc_at Tryz.func135 rfl (by kernel_rfl) 15 [.tmp 4] rfl rfl ?_
  repeat' (conv => whnf); first
    | refine side_and (side_of (by first | (and_intros <;> first | exact Nat.le_of_ble_eq_true rfl | rfl | (intro e; exact absurd (AV.own.inj e) (by decide)) | (intro e; exact AV.noConfusion e)) | fail)) ?_
    | refine side_and (side_of (app_bound2 (L := reads.map strC) (M := (ws.map WriteT.Key).map strC) (by (try simp only [List.length_map, List.length_append, List.length_take, List.length_set, List.length_drop, List.length_cons, List.length_nil]); omega) (Nat.le_of_ble_eq_true rfl))) ?_
    | (show Go.Ab.CallA _ _ _ _ _ _ _; first
        | refine CallF (c_Clone_string reads h1) rfl rfl rfl (Nat.le_of_ble_eq_true rfl) ?_
        | refine CallF (c_impl_writeKeys ws h2) rfl rfl rfl (Nat.le_of_ble_eq_true rfl) ?_)
    | refine side_and (side_of (map_len (fun _ => rfl))) ?_
    | refine side_and (side_of (map_one (fun _ => rfl) _)) ?_
    | refine CallSortS Tryz.func183 (by kernel_rfl) rfl Tryz.slices_Sort_string Tryz.slices_Sort_string_none (ss := keysO reads ws) (Nat.le_trans (keysO_len h1 h2) (by decide)) (congrArg (fun e => some (AObj.mk false _ _ e)) keysO_map) ?_
    | refine CallCompactS Tryz.func184 (by kernel_rfl) rfl Tryz.slices_Compact_string Tryz.slices_Compact_string_empty (ss := sortS (keysO reads ws)) (by rw [sortS_len]; exact Nat.le_trans (keysO_len h1 h2) (by decide)) rfl ?_
  all_goals
    conv => whnf
    exact OutA_ids rfl rfl rfl ⟨⟨_, _, _, rfl, rfl⟩, trivial⟩ rfl (.inr (flat_one (flat_map (fun _ => rfl) _)))
def kO (reads : List (List UInt8)) (ws : List WriteT) : List (List UInt8) := compS (sortS (keysO reads ws))
theorem kO_len {reads : List (List UInt8)} {ws : List WriteT} (h1 : reads.length ≤ 1048576) (h2 : ws.length ≤ 1048576) : (kO reads ws).length ≤ 2097152 := by
  have := compS_le (sortS (keysO reads ws))
  have h := keysO_len h1 h2
  rw [sortS_len] at this
  unfold kO
  omega
def partsI (cuts reads : List (List UInt8)) (ws : List WriteT) : List Int := compI ((kO reads ws).map (pI cuts))
theorem c_impl_partsOf (cuts reads : List (List UInt8)) (ws : List WriteT) (hc : okL okS cuts) (h1 : reads.length ≤ 1048576) (h2 : ws.length ≤ 1048576) : PC Tryz.prog false 90 [.sl (cuts.map strC), .sl (reads.map strC), .sl (ws.map WriteT.cells)] (.own 0) [⟨false, 3, 1, (partsI cuts reads ws).map intC⟩] := by
  have hkl := kO_len (reads := reads) (ws := ws) h1 h2
  have hq : PC Tryz.prog false 135 [.sl (reads.map strC), .sl (ws.map WriteT.cells)] (.own 0) [⟨false, 9, 1, (kO reads ws).map strC⟩] := c_impl_keysOf reads ws h1 h2
  refine pc_at Tryz.func90 rfl (by kernel_rfl) 28 [.tmp 6] rfl rfl ?_
  repeat' (conv => whnf); first
    | (refine ix_own (by omega) (fun y hy => ?_); try simp only [Int.toNat_natCast] at hy)
    | refine side_and (side_of (one_lenC rfl rfl)) ?_
    | refine side_and (side_of (by first | (and_intros <;> first | exact Nat.le_of_ble_eq_true rfl | rfl | (intro e; exact absurd (AV.own.inj e) (by decide)) | (intro e; exact AV.noConfusion e)) | fail)) ?_
    | refine side_and (side_of (app_boundC (L := ((kO reads ws).take k).map fun c => intC (pI cuts c)) rfl (by (try simp only [List.length_map, List.length_append, List.length_take, List.length_set, List.length_drop]); omega) (Nat.le_of_ble_eq_true rfl))) ?_
    | (refine nameB_dec (fun h => ?_) (fun h => ?_) <;> try simp only [lensB, midL_len, mkL_length, Int.toNat_natCast, fact_byte] at h)
    | refine splitB_true ?_
    | refine splitB_false ?_
    | (show Go.Ab.Loop _ _ _; (refine Loop_nil 7 1 3 1 rfl rfl (by decide) ?_; refine Loop_at [0, 13, 14] [] (Nat) (fun k => k ≤ (kO reads ws).length) (fun k => [(15, .int .i64 (k : Nat)), (7, .own 1)]) (fun k => [(1, ⟨false, 3, 1, ((kO reads ws).take k).map fun c => intC (pI cuts c)⟩), (8224, ⟨false, 9, 1, (kO reads ws).map strC⟩)]) (fun k => (kO reads ws).length - k) 0 ⟨by first | (simp_all <;> fail) | rfl | fail, by first | rfl | (simp_all <;> fail) | fail, trivial⟩ ⟨by first | rfl | exact congrArg (fun e => some (AObj.mk false _ _ e)) (app_snoc hy rfl) | fail | fail, by first | rfl | exact congrArg (fun e => some (AObj.mk false _ _ e)) (app_snoc hy rfl) | fail | fail, trivial⟩ (by (try dsimp only); first | (exact Nat.zero_le _) | fail) ?_; (conv => whnf); refine side_and (side_of (by first | exact fun k => rfl | exact fun k => by simp [headOk, closedE, closedO, closedL, AV.closed, hcap.closed, hasId, AObj.box, BK.ofB])) ?_; rintro k hT; try dsimp only at hT))
    | (show Go.Ab.Again _ _ _ _ _ _ _ _ _ _ _; refine Again_of (k + 1) ⟨by first | rfl | exact i64_next (by omega) | (simp_all <;> fail) | fail, by first | rfl | (simp_all <;> fail) | fail, trivial⟩ ⟨by first | rfl | exact congrArg (fun e => some (AObj.mk false _ _ e)) (app_snoc hy rfl) | fail | fail, by first | rfl | exact congrArg (fun e => some (AObj.mk false _ _ e)) (app_snoc hy rfl) | fail | fail, trivial⟩ (by first | (and_intros <;> first | rfl | trivial) | fail) (by first | (and_intros <;> first | rfl | trivial) | fail) rfl rfl rfl (by (try dsimp only); first | ((show k + 1 ≤ _; omega)) | fail) (show _ < _ by (try dsimp only); omega))
    | (show Go.Ab.CallA _ _ _ _ _ _ _; first
        | refine CallF (hq) rfl rfl rfl (Nat.le_of_ble_eq_true rfl) ?_
        | refine Call0 (c_impl_partOf cuts y hc) rfl rfl ?_)
    | refine side_and (side_of (by first | (and_intros <;> first | exact Nat.le_of_ble_eq_true rfl | rfl | omega | (simp only [lensB, lensC, List.length_replicate, midL_len, mkL_length]; omega) | exact bytes_ok (Nat.le_of_ble_eq_true rfl) (by omega) (by simp only [lensB, lensC, List.length_replicate, midL_len, mkL_length]; omega) | exact bytes_okN (Nat.le_of_ble_eq_true rfl) (by simp only [lensB, lensC, List.length_replicate, midL_len, mkL_length]; omega)) | fail)) ?_
    | refine LoadK_of rfl rfl ?_
    | refine CallCompactI Tryz.func137 (by kernel_rfl) rfl Tryz.slices_Compact_int Tryz.slices_Compact_int_empty (ss := (kO reads ws).map (pI cuts)) (by rw [List.length_map]; omega) (congrArg (fun e => some (AObj.mk false _ _ e)) (by rw [List.take_of_length_le (by omega), List.map_map]; rfl)) ?_
  all_goals
    conv => whnf
    exact OutA_ids rfl rfl rfl ⟨⟨_, _, _, rfl, rfl⟩, trivial⟩ rfl (.inr (flat_one (flat_map (fun _ => rfl) _)))
theorem kO_eq {reads : List (List UInt8)} {ws : List WriteT} : kO reads ws = (keysO reads ws).foldl putS [] := keys_eq _
theorem putS_fold_len : ∀ (ks l : List (List UInt8)), (ks.foldl putS l).length ≤ l.length + ks.length
  | [], l => by simp
  | k :: ks, l => by
    have h1 := putS_fold_len ks (putS l k)
    have h2 := putS_len l k
    simp only [List.foldl_cons, List.length_cons]
    omega
theorem putW_next {ws : List WriteT} {i : Nat} {w : WriteT} {l : List (List UInt8)} (hw : ws[i]? = some w) : putS (((ws.take i).map WriteT.Key).foldl putS l) w.Key = ((ws.take (i + 1)).map WriteT.Key).foldl putS l := by
  rw [take_get hw, List.map_append, List.foldl_append]; rfl
theorem c_spec_l4KeysOf (reads : List (List UInt8)) (ws : List WriteT) (h12 : reads.length + ws.length ≤ 1048576) : PC Tryz.prog true 134 [.sl (reads.map strC), .sl (ws.map WriteT.cells)] (.sl ((kO reads ws).map strC)) [] := by
  rw [kO_eq]
  unfold keysO
  rw [List.foldl_append]
  refine pc_at Tryz.func134 rfl (by kernel_rfl) 32 [.tmp 4] rfl rfl ?_
  repeat' (conv => whnf); first
    | (refine ix_as (f := WriteT.cells) (m := i) rfl (by omega) (fun w hw => ?_))
    | (refine ix_as (f := strC) (m := k) rfl (by omega) (fun x hx => ?_))
    | (refine nameB_dec (fun h => ?_) (fun h => ?_) <;> try simp only [lensB, midL_len, mkL_length, Int.toNat_natCast, fact_byte] at h)
    | refine splitB_true ?_
    | refine splitB_false ?_
    | (show Go.Ab.Loop _ _ _; first
        | (refine Loop_nilS 5 rfl ?_; refine Loop_at [1, 10, 11] [] (Nat) (fun k => k ≤ reads.length) (fun k => [(12, .int .i64 (k : Nat)), (5, .sl (((reads.take k).foldl putS []).map strC))]) (fun k => []) (fun k => reads.length - k) 0 ⟨by first | exact congrArg (fun l : List (List UInt8) => AV.sl (l.map strC)) (foldl_snoc (g := putS) hx).symm | rfl | fail, by first | rfl | exact congrArg (fun l : List (List UInt8) => AV.sl (l.map strC)) (foldl_snoc (g := putS) hx).symm | fail, trivial⟩ trivial (by (try dsimp only); first | (exact Nat.zero_le _) | fail) ?_; (conv => whnf); refine side_and (side_of (by first | exact fun k => rfl | exact fun k => by simp [headOk, closedE, closedO, closedL, AV.closed, hcap.closed, hasId, AObj.box, BK.ofB])) ?_; rintro k hK; try dsimp only at hK)
        | (refine Loop_at [20, 21] [] (Nat) (fun i => i ≤ ws.length) (fun i => [(22, .int .i64 (i : Nat)), (5, .sl ((((ws.take i).map WriteT.Key).foldl putS (reads.foldl putS [])).map strC))]) (fun i => []) (fun i => ws.length - i) 0 ⟨by first | first | exact congrArg (fun l : List (List UInt8) => AV.sl ((l.foldl putS []).map strC)) (List.take_of_length_le (by omega)) | exact congrArg (fun l : List (List UInt8) => AV.sl (l.map strC)) (putW_next hw) | rfl | fail, by first | rfl | first | exact congrArg (fun l : List (List UInt8) => AV.sl ((l.foldl putS []).map strC)) (List.take_of_length_le (by omega)) | exact congrArg (fun l : List (List UInt8) => AV.sl (l.map strC)) (putW_next hw) | fail, trivial⟩ trivial (by (try dsimp only); first | (exact Nat.zero_le _) | fail) ?_; (conv => whnf); refine side_and (side_of (by first | exact fun i => rfl | exact fun i => by simp [headOk, closedE, closedO, closedL, AV.closed, hcap.closed, hasId, AObj.box, BK.ofB])) ?_; rintro i hI; try dsimp only at hI))
    | (show Go.Ab.Again _ _ _ _ _ _ _ _ _ _ _; first
        | refine Again_of (k + 1) ⟨by first | rfl | exact i64_next (by omega) | exact congrArg (fun l : List (List UInt8) => AV.sl (l.map strC)) (foldl_snoc (g := putS) hx).symm | fail, by first | rfl | exact congrArg (fun l : List (List UInt8) => AV.sl (l.map strC)) (foldl_snoc (g := putS) hx).symm | fail, trivial⟩ trivial (by first | (and_intros <;> first | rfl | trivial) | fail) (by first | (and_intros <;> first | rfl | trivial) | fail) rfl rfl rfl (by (try dsimp only); first | ((show k + 1 ≤ _; omega)) | fail) (show _ < _ by (try dsimp only); omega)
        | refine Again_of (i + 1) ⟨by first | rfl | exact i64_next (by omega) | first | exact congrArg (fun l : List (List UInt8) => AV.sl ((l.foldl putS []).map strC)) (List.take_of_length_le (by omega)) | exact congrArg (fun l : List (List UInt8) => AV.sl (l.map strC)) (putW_next hw) | fail, by first | rfl | first | exact congrArg (fun l : List (List UInt8) => AV.sl ((l.foldl putS []).map strC)) (List.take_of_length_le (by omega)) | exact congrArg (fun l : List (List UInt8) => AV.sl (l.map strC)) (putW_next hw) | fail, trivial⟩ trivial (by first | (and_intros <;> first | rfl | trivial) | fail) (by first | (and_intros <;> first | rfl | trivial) | fail) rfl rfl rfl (by (try dsimp only); first | ((show i + 1 ≤ _; omega)) | fail) (show _ < _ by (try dsimp only); omega))
    | (show Go.Ab.CallA _ _ _ _ _ _ _; first
        | refine CallT (c_spec_l4PutS ((reads.take k).foldl putS []) x (by have := putS_fold_len (reads.take k) []; simp only [List.length_take, List.length_nil] at this; omega)) rfl rfl rfl rfl (Nat.le_of_ble_eq_true rfl) ?_
        | refine CallT (c_spec_l4PutS (((ws.take i).map WriteT.Key).foldl putS (reads.foldl putS [])) w.Key (by have h3 := putS_fold_len ((ws.take i).map WriteT.Key) (reads.foldl putS []); have h4 := putS_fold_len reads []; simp only [List.length_map, List.length_take, List.length_nil] at h3 h4; omega)) rfl rfl rfl rfl (Nat.le_of_ble_eq_true rfl) ?_)
    | refine side_and (side_of (by first | (and_intros <;> first | exact Nat.le_of_ble_eq_true rfl | rfl | omega | (simp only [lensB, lensC, List.length_replicate, midL_len, mkL_length]; omega) | exact bytes_ok (Nat.le_of_ble_eq_true rfl) (by omega) (by simp only [lensB, lensC, List.length_replicate, midL_len, mkL_length]; omega) | exact bytes_okN (Nat.le_of_ble_eq_true rfl) (by simp only [lensB, lensC, List.length_replicate, midL_len, mkL_length]; omega)) | fail)) ?_
  all_goals
    conv => whnf
    refine OutA_plain rfl rfl ?_
    exact congrArg (fun l : List WriteT => AV.sl (((l.map WriteT.Key).foldl putS (reads.foldl putS [])).map strC)) (List.take_of_length_le (by omega))
theorem part_mono {cuts : List (List UInt8)} {a b : List UInt8} (h : Op.bytesLess a b = true) : pI cuts a ≤ pI cuts b := by
  unfold pI partN
  have hs : (cuts.filter (leqB a)).length ≤ (cuts.filter (leqB b)).length := by
    induction cuts with
    | nil => simp
    | cons c cs ih =>
      have hc : leqB a c = true → leqB b c = true := by
        intro h1
        rw [leqB_not] at h1 ⊢
        cases h2 : Op.bytesLess b c with
        | false => rfl
        | true => rw [bl_trans _ _ _ h h2] at h1; cases h1
      by_cases h1 : leqB a c = true
      · rw [List.filter_cons_of_pos h1, List.filter_cons_of_pos (hc h1), List.length_cons, List.length_cons]; omega
      · rw [List.filter_cons_of_neg h1]
        by_cases h2 : leqB b c = true
        · rw [List.filter_cons_of_pos h2, List.length_cons]; omega
        · rw [List.filter_cons_of_neg h2]; exact ih
  omega
def partsS (cuts reads : List (List UInt8)) (ws : List WriteT) : List Int := ((kO reads ws).map (pS cuts)).foldl putI []
theorem parts_eq {cuts reads : List (List UInt8)} {ws : List WriteT} (h : okCuts cuts = true) : partsI cuts reads ws = partsS cuts reads ws := by
  unfold partsI partsS
  rw [compI_eq]
  · congr 1
    refine List.map_congr_left fun k _ => ?_
    unfold okCuts at h
    rw [Bool.and_eq_true] at h
    unfold pI pS
    rw [takeN_eq h.1]
  · rw [List.pairwise_map]
    exact (keys_strict _).imp fun h => part_mono h
theorem putP_next {ks : List (List UInt8)} {i : Nat} {k : List UInt8} {cuts : List (List UInt8)} (hk : ks[i]? = some k) : putI (((ks.take i).map (pS cuts)).foldl putI []) (pS cuts k) = ((ks.take (i + 1)).map (pS cuts)).foldl putI [] := by
  rw [take_get hk, List.map_append, List.foldl_append]; rfl
theorem c_spec_l15Parts (cuts ks : List (List UInt8)) (hc : okL okS cuts) (hl : ks.length ≤ 1048576) : PC Tryz.prog true 133 [.sl (cuts.map strC), .sl (ks.map strC)] (.sl (((ks.map (pS cuts)).foldl putI []).map intC)) [] := by
  refine pc_at Tryz.func133 rfl (by kernel_rfl) 21 [.tmp 4] rfl rfl ?_
  repeat' (conv => whnf); first
    | (refine ix_as (f := strC) (m := k) rfl (by omega) (fun x hx => ?_))
    | (refine nameB_dec (fun h => ?_) (fun h => ?_) <;> try simp only [lensB, midL_len, mkL_length, Int.toNat_natCast, fact_byte] at h)
    | refine splitB_true ?_
    | refine splitB_false ?_
    | (show Go.Ab.Loop _ _ _; (refine Loop_nilS 5 rfl ?_; refine Loop_at [0, 8, 9] [] (Nat) (fun k => k ≤ ks.length) (fun k => [(10, .int .i64 (k : Nat)), (5, .sl ((((ks.take k).map (pS cuts)).foldl putI []).map intC))]) (fun k => []) (fun k => ks.length - k) 0 ⟨by first | exact congrArg (fun l : List Int => AV.sl (l.map intC)) (putP_next hx) | rfl | fail, by first | rfl | exact congrArg (fun l : List Int => AV.sl (l.map intC)) (putP_next hx) | fail, trivial⟩ trivial (by (try dsimp only); first | (exact Nat.zero_le _) | fail) ?_; (conv => whnf); refine side_and (side_of (by first | exact fun k => rfl | exact fun k => by simp [headOk, closedE, closedO, closedL, AV.closed, hcap.closed, hasId, AObj.box, BK.ofB])) ?_; rintro k hT; try dsimp only at hT))
    | (show Go.Ab.Again _ _ _ _ _ _ _ _ _ _ _; refine Again_of (k + 1) ⟨by first | rfl | exact i64_next (by omega) | exact congrArg (fun l : List Int => AV.sl (l.map intC)) (putP_next hx) | fail, by first | rfl | exact congrArg (fun l : List Int => AV.sl (l.map intC)) (putP_next hx) | fail, trivial⟩ trivial (by first | (and_intros <;> first | rfl | trivial) | fail) (by first | (and_intros <;> first | rfl | trivial) | fail) rfl rfl rfl (by (try dsimp only); first | ((show k + 1 ≤ _; omega)) | fail) (show _ < _ by (try dsimp only); omega))
    | (show Go.Ab.CallA _ _ _ _ _ _ _; first
        | refine Call0 (c_spec_l15Part cuts x hc) rfl rfl ?_
        | refine CallT (c_spec_l1Put (((ks.take k).map (pS cuts)).foldl putI []) (pS cuts x) (by have h3 := foldI_len ((ks.take k).map (pS cuts)) []; simp only [List.length_map, List.length_take, List.length_nil] at h3; omega)) rfl rfl rfl rfl (Nat.le_of_ble_eq_true rfl) ?_)
    | refine side_and (side_of (by first | (and_intros <;> first | exact Nat.le_of_ble_eq_true rfl | rfl | omega | (simp only [lensB, lensC, List.length_replicate, midL_len, mkL_length]; omega) | exact bytes_ok (Nat.le_of_ble_eq_true rfl) (by omega) (by simp only [lensB, lensC, List.length_replicate, midL_len, mkL_length]; omega) | exact bytes_okN (Nat.le_of_ble_eq_true rfl) (by simp only [lensB, lensC, List.length_replicate, midL_len, mkL_length]; omega)) | fail)) ?_
  all_goals
    conv => whnf
    refine OutA_plain rfl rfl ?_
    exact congrArg (fun l : List (List UInt8) => AV.sl (((l.map (pS cuts)).foldl putI []).map intC)) (List.take_of_length_le (by omega))
theorem c_spec_l15Of (cuts : List (List UInt8)) (o : OrderT) (hc : okL okS cuts) (h12 : o.Reads.length + o.Writes.length ≤ 1048576) : PC Tryz.prog true 87 [.sl (cuts.map strC), .agg o.cells] (.sl ((partsS cuts o.Reads o.Writes).map intC)) [] := by
  have hk := kO_len (reads := o.Reads) (ws := o.Writes) (by omega) (by omega)
  have hk2 : (kO o.Reads o.Writes).length ≤ 1048576 := by
    have h3 := compS_le (sortS (keysO o.Reads o.Writes))
    rw [sortS_len] at h3
    unfold keysO at h3
    simp only [List.length_append, List.length_map] at h3
    unfold kO keysO
    omega
  refine pc_at Tryz.func87 rfl (by kernel_rfl) 12 [.tmp 4] rfl rfl ?_
  repeat' (conv => whnf); first
    | (show Go.Ab.CallA _ _ _ _ _ _ _; first
        | refine CallT (c_spec_l4KeysOf o.Reads o.Writes h12) rfl rfl rfl rfl (Nat.le_of_ble_eq_true rfl) ?_
        | refine CallT (c_spec_l15Parts cuts (kO o.Reads o.Writes) hc hk2) rfl rfl rfl rfl (Nat.le_of_ble_eq_true rfl) ?_)
    | refine side_and (side_of (by first | (and_intros <;> first | exact Nat.le_of_ble_eq_true rfl | rfl | omega | (simp only [lensB, lensC, List.length_replicate, midL_len, mkL_length]; omega) | exact bytes_ok (Nat.le_of_ble_eq_true rfl) (by omega) (by simp only [lensB, lensC, List.length_replicate, midL_len, mkL_length]; omega) | exact bytes_okN (Nat.le_of_ble_eq_true rfl) (by simp only [lensB, lensC, List.length_replicate, midL_len, mkL_length]; omega)) | fail)) ?_
  all_goals
    conv => whnf
    exact OutA_plain rfl rfl rfl
def okP (cuts : List (List UInt8)) (o : OrderT) : Bool := okCuts cuts && okOrder o
def partsR (cuts : List (List UInt8)) (o : OrderT) : List Int := match okP cuts o with | true => partsS cuts o.Reads o.Writes | false => []
theorem ord_sum {o : OrderT} (hw : o.w ≤ 1048576) : o.Reads.length + o.Writes.length ≤ 1048576 := by
  have e2 := wL_len (w := List.length) (xs := o.Reads)
  have e3 := wL_len (w := WriteT.w) (xs := o.Writes)
  unfold OrderT.w at hw
  omega
end Go.Proofs.YtgkghkcahepicaaGreat
