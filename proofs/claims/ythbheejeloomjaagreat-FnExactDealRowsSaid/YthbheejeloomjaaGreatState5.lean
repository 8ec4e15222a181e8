/-
  What the program's functions on states give.
  No condition.
-/
import Derived.Test.YthbheejeloomjaaGreatState4
namespace Go.Proofs.YthbheejeloomjaaGreat
open Go.Ab
set_option linter.unusedSimpArgs false
set_option maxRecDepth 20000
set_option maxHeartbeats 4000000
set_option linter.unusedVariables false

def flatW (hs : List HeldT) : List (List UInt8) := (hs.map fun h => h.Writes.map WriteT.Key).flatten
def fullI (cells : List CellT) (w : WriteT) : Bool := match cells[bsPos (cK w.Key) cells]? with | some c => bsHit (cK w.Key) cells && decide ((c.Vers.length : Int) ≥ 16) | none => false
def keysI (cells : List CellT) (hs : List HeldT) : List (List UInt8) := cells.map CellT.Key ++ flatW hs
def roomI (cells : List CellT) (hs : List HeldT) : Bool := !(hs.any fun h => h.Writes.any (fullI cells)) && (decide ((hs.length : Int) ≤ 12) && decide (((compS (sortS (keysI cells hs))).length : Int) ≤ 24))
theorem flatW_take {hs : List HeldT} {i : Nat} {h : HeldT} (hx : hs[i]? = some h) : flatW (hs.take (i + 1)) = flatW (hs.take i) ++ h.Writes.map WriteT.Key := by
  unfold flatW
  rw [take_get hx, List.map_append, List.flatten_append]
  simp
theorem flatW_le (hs : List HeldT) (i : Nat) : (flatW (hs.take i)).length ≤ (flatW hs).length := by
  conv => rhs; rw [← List.take_append_drop i hs]
  unfold flatW
  rw [List.map_append, List.flatten_append, List.length_append]
  omega
theorem flatW_next {hs : List HeldT} {i : Nat} {h : HeldT} (hx : hs[i]? = some h) : (flatW (hs.take i)).length + h.Writes.length ≤ (flatW hs).length := by
  have h1 := flatW_le hs (i + 1)
  rw [flatW_take hx, List.length_append, List.length_map] at h1
  exact h1
theorem fullI_no {cells : List CellT} {w : WriteT} (h : bsHit (cK w.Key) cells = false) : fullI cells w = false := by
  unfold fullI
  split
  · rw [h]; rfl
  · rfl
theorem fullI_at {cells : List CellT} {w : WriteT} {c : CellT} {b : Bool} (h : bsHit (cK w.Key) cells = true) (hx : cells[bsPos (cK w.Key) cells]? = some c) (hb : decide ((c.Vers.length : Int) ≥ 16) = b) : fullI cells w = b := by
  unfold fullI
  simp only [hx, h, Bool.true_and, hb]
theorem sn1 {A : List (List UInt8)} {ws : List WriteT} {j : Nat} {w : WriteT} {L : List (List AV)} (hx : ws[j]? = some w) (hL : L = [strC w.Key]) : (A ++ (ws.take j).map WriteT.Key).map strC ++ L = (A ++ (ws.take (j + 1)).map WriteT.Key).map strC := by
  rw [hL, take_get hx, List.map_append (f := WriteT.Key), ← List.append_assoc, List.map_append (l₂ := [w].map WriteT.Key)]
  rfl
theorem sn2 {A : List (List UInt8)} {ws : List WriteT} : A.map strC = (A ++ (ws.take 0).map WriteT.Key).map strC := by simp
theorem sn3 {A : List (List UInt8)} {hs : List HeldT} {i : Nat} {h : HeldT} {j : Nat} (hx : hs[i]? = some h) (hj : ¬ (j : Int) < h.Writes.length) : ((A ++ flatW (hs.take i)) ++ (h.Writes.take j).map WriteT.Key).map strC = (A ++ flatW (hs.take (i + 1))).map strC := by
  rw [flatW_take hx, List.take_of_length_le (l := h.Writes) (by omega), List.append_assoc]
theorem sn4 {cs : List CellT} {hs : List HeldT} {k : Nat} (hk : ¬ (k : Int) < cs.length) : ((cs.take k).map fun c => strC c.Key) = (cs.map CellT.Key ++ flatW (hs.take 0)).map strC := by
  rw [List.take_of_length_le (by omega)]
  simp [flatW]
theorem sn5 {A : List (List UInt8)} {hs : List HeldT} {i : Nat} (hi : ¬ (i : Int) < hs.length) : (A ++ flatW (hs.take i)).map strC = (A ++ flatW hs).map fun l => [AV.str l] := by
  rw [List.take_of_length_le (by omega)]
  rfl
theorem sortS_len (ss : List (List UInt8)) : (sortS ss).length = ss.length := by simp [sortS]
theorem room_len {cs : List CellT} {hs : List HeldT} (h : cs.length + (flatW hs).length ≤ 2097152) : (cs.map CellT.Key ++ flatW hs).length ≤ 4194304 := by
  rw [List.length_append, List.length_map]; omega
theorem c_impl_State_room (s : StateT) (hs : List HeldT) (hok : s.ok) (hho : okL HeldT.ok hs) (hsz : s.Cells.length + (flatW hs).length ≤ 2097152) : PC Tryz.prog false 118 [.agg s.cells, .sl (hs.map HeldT.cells)] (.bool (roomI s.Cells hs)) [] := by
  have hl := hok.2.1.1
  have hl2 := hho.1
  refine pc_at Tryz.func118 rfl (by kernel_rfl) 78 [.tmp 4] rfl rfl ?_
  repeat' (conv => whnf); first
 | refine ix_as (m := bsPos (cK w.Key) s.Cells) rfl (bsHit_lt (by assumption)) (fun c hc => ?_)
 | (refine ix_as (m := j) rfl (by omega) (fun w hw => ?_); have hgl := (hho.2 g (List.mem_of_getElem? hg)).2.2.2.2.1; have hcl := fun c hc => (hok.2.1.2 c (List.mem_of_getElem? (i := bsPos (cK w.Key) s.Cells) hc)).2.1)
 | (refine ix_as (m := i) rfl (by omega) (fun g hg => ?_); have hgl := (hho.2 g (List.mem_of_getElem? hg)).2.2.2.2.1; have hfn := flatW_next hg)
 | (refine nameB_cases (b := bsHit (cK w.Key) s.Cells) (fun h => ?_) (fun h => ?_))
 | refine side_and (side_of (one_lenC rfl rfl)) ?_
 | refine side_and (side_of (by first | (and_intros <;> first | exact Nat.le_of_ble_eq_true rfl | rfl | (intro e; exact absurd (AV.own.inj e) (by decide)) | (intro e; exact AV.noConfusion e)) | fail)) ?_
 | refine side_and (side_of (app_boundC (L := (s.Cells.take k).map fun c => strC c.Key) rfl (by (try simp only [List.length_map, List.length_append, List.length_take, List.length_set, List.length_drop]); omega) (Nat.le_of_ble_eq_true rfl))) ?_
 | refine side_and (side_of (app_boundC (L := ((s.Cells.map CellT.Key ++ flatW (hs.take i)) ++ (g.Writes.take j).map WriteT.Key).map strC) rfl (by (try simp only [List.length_map, List.length_append, List.length_take, List.length_set, List.length_drop]); omega) (Nat.le_of_ble_eq_true rfl))) ?_
 | (refine nameB_dec (fun h => ?_) (fun h => ?_) <;> try simp only [lensB] at h)
 | refine splitB_true ?_
 | refine splitB_false ?_
 | (refine Loop_nil 5 4096 9 1 rfl rfl (by decide) ?_; refine Loop_at [1, 2, 16, 17] [0] (Nat) (fun k => k ≤ s.Cells.length) (fun k => [(18, .int .i64 (k : Nat)), (5, .own 4096)]) (fun k => [(4096, ⟨false, 9, 1, (s.Cells.take k).map fun c => strC c.Key⟩)]) (fun k => s.Cells.length - k) 0 ⟨by first | (simp_all <;> fail) | rfl | fail, by first | rfl | (simp_all <;> fail) | fail, trivial⟩ ⟨by first | rfl | exact congrArg (fun e => some (AObj.mk false _ _ e)) (app_snoc hx rfl) | fail | fail, trivial⟩ (by (try dsimp only); first | (exact Nat.zero_le _) | fail) ?_; (conv => whnf); refine side_and (side_of (by first | exact fun k => rfl | exact fun k => by simp [headOk, closedE, closedO, closedL, AV.closed, hcap.closed, hasId, AObj.box, BK.ofB])) ?_; rintro k hK; try dsimp only at hK)
 | (refine Loop_at [1, 2, 28, 29] [0] (Nat) (fun i => ((hs.drop i).any fun h => h.Writes.any (fullI s.Cells)) = (hs.any fun h => h.Writes.any (fullI s.Cells)) ∧ i ≤ hs.length) (fun i => [(30, .int .i64 (i : Nat)), (5, .own 4096)]) (fun i => [(4096, ⟨false, 9, 1, (s.Cells.map CellT.Key ++ flatW (hs.take i)).map strC⟩)]) (fun i => hs.length - i) 0 ⟨by first | (simp_all <;> fail) | rfl | fail, by first | rfl | (simp_all <;> fail) | fail, trivial⟩ ⟨by first | rfl | first | exact congrArg (fun e => some (AObj.mk false _ _ e)) (sn3 hg (by assumption)) | exact congrArg (fun e => some (AObj.mk false _ _ e)) (sn4 (by assumption)) | fail | fail, trivial⟩ (by (try dsimp only); first | (exact ⟨rfl, by omega⟩) | fail) ?_; (conv => whnf); refine side_and (side_of (by first | exact fun i => rfl | exact fun i => by simp [headOk, closedE, closedO, closedL, AV.closed, hcap.closed, hasId, AObj.box, BK.ofB])) ?_; rintro i hT; try dsimp only at hT)
 | (refine Loop_at [1, 2, 28, 29, 30, 35, 36] [0] (Nat) (fun j => ((g.Writes.drop j).any (fullI s.Cells)) = g.Writes.any (fullI s.Cells) ∧ j ≤ g.Writes.length) (fun j => [(37, .int .i64 (j : Nat)), (5, .own 4096)]) (fun j => [(4096, ⟨false, 9, 1, ((s.Cells.map CellT.Key ++ flatW (hs.take i)) ++ (g.Writes.take j).map WriteT.Key).map strC⟩)]) (fun j => g.Writes.length - j) 0 ⟨by first | (simp_all <;> fail) | rfl | fail, by first | rfl | (simp_all <;> fail) | fail, trivial⟩ ⟨by first | rfl | first | exact congrArg (fun e => some (AObj.mk false _ _ e)) (sn1 hw rfl) | exact congrArg (fun e => some (AObj.mk false _ _ e)) sn2 | fail | fail, trivial⟩ (by (try dsimp only); first | (exact ⟨rfl, by omega⟩) | fail) ?_; (conv => whnf); refine side_and (side_of (by first | exact fun j => rfl | exact fun j => by simp [headOk, closedE, closedO, closedL, AV.closed, hcap.closed, hasId, AObj.box, BK.ofB])) ?_; rintro j hI; try dsimp only at hI)
 | refine Again_of (k + 1) ⟨by first | rfl | exact i64_next (by omega) | (simp_all <;> fail) | fail, by first | rfl | (simp_all <;> fail) | fail, trivial⟩ ⟨by first | rfl | exact congrArg (fun e => some (AObj.mk false _ _ e)) (app_snoc hx rfl) | fail | fail, trivial⟩ (by first | (and_intros <;> first | rfl | trivial) | fail) (by first | (and_intros <;> first | rfl | trivial) | fail) rfl rfl rfl (by (try dsimp only); first | ((show k + 1 ≤ _; omega)) | fail) (show _ < _ by (try dsimp only); omega)
 | refine Again_of (i + 1) ⟨by first | rfl | exact i64_next (by omega) | (simp_all <;> fail) | fail, by first | rfl | (simp_all <;> fail) | fail, trivial⟩ ⟨by first | rfl | first | exact congrArg (fun e => some (AObj.mk false _ _ e)) (sn3 hg (by assumption)) | exact congrArg (fun e => some (AObj.mk false _ _ e)) (sn4 (by assumption)) | fail | fail, trivial⟩ (by first | (and_intros <;> first | rfl | trivial) | fail) (by first | (and_intros <;> first | rfl | trivial) | fail) rfl rfl rfl (by (try dsimp only); first | (exact ⟨any_go (q := fun h : HeldT => h.Writes.any (fullI s.Cells)) hT.1 hg (any_end hI.1 (by assumption)), by omega⟩) | fail) (show _ < _ by (try dsimp only); omega)
 | refine Again_of (j + 1) ⟨by first | rfl | exact i64_next (by omega) | (simp_all <;> fail) | fail, by first | rfl | (simp_all <;> fail) | fail, trivial⟩ ⟨by first | rfl | first | exact congrArg (fun e => some (AObj.mk false _ _ e)) (sn1 hw rfl) | exact congrArg (fun e => some (AObj.mk false _ _ e)) sn2 | fail | fail, trivial⟩ (by first | (and_intros <;> first | rfl | trivial) | fail) (by first | (and_intros <;> first | rfl | trivial) | fail) rfl rfl rfl (by (try dsimp only); first | (first | exact ⟨any_go hI.1 hw (fullI_no (by assumption)), by omega⟩ | exact ⟨any_go hI.1 hw (fullI_at (by assumption) hc (decide_eq_false (by omega))), by omega⟩) | fail) (show _ < _ by (try dsimp only); omega)
 | refine Call0 (c_impl_findCell s.Cells w.Key hl) rfl rfl ?_
 | (refine ix_map (by omega) (by (try simp only [List.length_take]); omega) (fun x hx => ?_); try simp only [Int.toNat_natCast] at hx)
 | refine CallSortS Tryz.func145 (by kernel_rfl) rfl Tryz.slices_Sort_string Tryz.slices_Sort_string_none (ss := s.Cells.map CellT.Key ++ flatW hs) (room_len hsz) (congrArg (fun e => some (AObj.mk false _ _ e)) (sn5 (by assumption))) ?_
 | refine CallCompactS Tryz.func146 (by kernel_rfl) rfl Tryz.slices_Compact_string Tryz.slices_Compact_string_empty (ss := sortS (s.Cells.map CellT.Key ++ flatW hs)) (by rw [sortS_len]; exact room_len hsz) rfl ?_
 | fail
  all_goals
    conv => whnf
    refine OutA_plain rfl rfl ?_
    first
    | (have hb := any_hit hI.1 hw (fullI_at (by assumption) hc (decide_eq_true (by assumption))); have hb2 := any_hit (q := fun h : HeldT => h.Writes.any (fullI s.Cells)) hT.1 hg hb; simp only [roomI, hb2, Bool.not_true, Bool.false_and]; rfl)
    | (have hb := any_end hT.1 (by assumption); simp only [roomI, keysI, hb, *, Bool.not_false, Bool.true_and, Bool.and_true, Bool.and_false, Bool.false_and, decide_true, decide_false]; rfl)
    | (have hb := any_end hT.1 (by assumption); simp_all [roomI, keysI, named, AV.sub]; done)
theorem c_impl_State_findHeld_1 (x : HeldT) (t : Int) : PC Tryz.prog false 121 [.agg x.cells, .int .i64 t] (.int .i64 (cmpI x.Txn t)) [] := by
  refine pc_at Tryz.func121 rfl (by kernel_rfl) 9 [.tmp 4] rfl rfl ?_
  repeat' (conv => whnf); first
 | refine Call0 (c_cmp_Compare_int x.Txn t) rfl rfl ?_
 | refine side_and (side_of (by first | (and_intros <;> first | exact Nat.le_of_ble_eq_true rfl | rfl | omega | (simp only [lensB, lensC]; omega) | exact bytes_ok (Nat.le_of_ble_eq_true rfl) (by omega) (by simp only [lensB, lensC]; omega) | exact bytes_okN (Nat.le_of_ble_eq_true rfl) (by simp only [lensB, lensC]; omega)) | fail)) ?_
 | fail
  all_goals
    conv => whnf
    refine OutA_plain rfl rfl ?_
    first
    | rfl
    | (simp only [*, named, AV.sub, AV.sub.subL, Bool.and_true, Bool.and_false, Bool.true_and, Bool.false_and, Bool.or_true, Bool.or_false, Bool.true_or, Bool.false_or, Bool.not_true, Bool.not_false, if_true, if_false, decide_true, decide_false, Bool.false_eq_true, Bool.and_self]; done)
    | (simp_all [named, AV.sub, AV.sub.subL]; done)
    | (simp_all [named, AV.sub, AV.sub.subL] <;> (intros; omega))
    | (exfalso; omega)
def hK (t : Int) (x : HeldT) : Int := cmpI x.Txn t
theorem c_impl_State_findHeld (s : StateT) (t : Int) (hok : s.ok) : PC Tryz.prog false 82 [.agg s.cells, .int .i64 t] (.tup [.int .i64 (bsPos (hK t) s.Held : Nat), .bool (bsHit (hK t) s.Held)]) [] := by
  refine pc_at Tryz.func82 rfl (by kernel_rfl) 12 [.tmp 4, .tmp 5] rfl rfl ?_
  repeat' (conv => whnf); first
 | refine nameB_self (b := bsHit (hK t) s.Held) ?_
 | refine Call0 (c_BS_Held s.Held t 121 [] (hK t) hok.2.2.1.1 ⟨fun _ => rfl, fun _ => rfl, fun _ => rfl, fun _ => rfl, fun _ => rfl⟩ (fun x _ => c_impl_State_findHeld_1 x t)) rfl rfl ?_
 | refine side_and (side_of (by first | (and_intros <;> first | exact Nat.le_of_ble_eq_true rfl | rfl | omega | (simp only [lensB, lensC]; omega) | exact bytes_ok (Nat.le_of_ble_eq_true rfl) (by omega) (by simp only [lensB, lensC]; omega) | exact bytes_okN (Nat.le_of_ble_eq_true rfl) (by simp only [lensB, lensC]; omega)) | fail)) ?_
 | fail
  all_goals
    conv => whnf
    refine OutA_plain rfl rfl ?_
    first
    | rfl
    | (simp only [*, named, AV.sub, AV.sub.subL, Bool.and_true, Bool.and_false, Bool.true_and, Bool.false_and, Bool.or_true, Bool.or_false, Bool.true_or, Bool.false_or, Bool.not_true, Bool.not_false, if_true, if_false, decide_true, decide_false, Bool.false_eq_true, Bool.and_self]; done)
    | (simp_all [named, AV.sub, AV.sub.subL]; done)
    | (simp_all [named, AV.sub, AV.sub.subL] <;> (intros; omega))
    | (exfalso; omega)
def heldI (s : StateT) (pre : List HeldT) (h : HeldT) : Bool := okRec h.rec1 && decide (h.Time ≤ s.Floor) && prevB (fun a b => decide (a.Txn < b.Txn)) pre h && !pre.any (clashB h) && !h.Writes.any (fun w => decide (h.Time ≤ lastI s.Cells w.Key))
def areHeldI (s : StateT) : Bool := allPre (heldI s) [] s.Held && roomI s.Cells s.Held
theorem heldI_no {s : StateT} {pre : List HeldT} {h : HeldT} (q : okRec h.rec1 = false ∨ ¬ h.Time ≤ s.Floor ∨ prevB (fun a b : HeldT => decide (a.Txn < b.Txn)) pre h = false ∨ pre.any (clashB h) = true ∨ h.Writes.any (fun w => decide (h.Time ≤ lastI s.Cells w.Key)) = true) : heldI s pre h = false := by
  rcases q with q | q | q | q | q <;> simp only [heldI, q, decide_false, Bool.not_true, Bool.false_and, Bool.and_false]
theorem heldI_yes {s : StateT} {pre : List HeldT} {h : HeldT} (q1 : okRec h.rec1 = true) (q2 : h.Time ≤ s.Floor) (q3 : prevB (fun a b : HeldT => decide (a.Txn < b.Txn)) pre h = true) (q4 : pre.any (clashB h) = false) (q5 : h.Writes.any (fun w => decide (h.Time ≤ lastI s.Cells w.Key)) = false) : heldI s pre h = true := by
  simp only [heldI, q1, q2, q3, q4, q5, decide_true, Bool.not_false, Bool.true_and, Bool.and_true]
theorem c_impl_State_areHeld (s : StateT) (hok : s.ok) (hne : ∀ c ∈ s.Cells, 0 < c.Vers.length) (hw : s.w ≤ 1048576) (hsz : s.Cells.length + (flatW s.Held).length ≤ 2097152) (hwl : ∀ h ∈ s.Held, h.Writes.length ≤ 1048576 ∧ h.Reads.length ≤ 1048576) : PC Tryz.prog false 79 [.agg s.cells] (.bool (areHeldI s)) [] := by
  have hl := hok.2.2.1.1
  refine pc_at Tryz.func79 rfl (by kernel_rfl) 55 [.tmp 2] rfl rfl ?_
  repeat' (conv => whnf); first
 | refine ix_as (m := k - 1) (by simp only [i64_wrap_eq]; omega) (by omega) (fun y hy => ?_)
 | (refine ix_as (m := k) rfl (by omega) (fun g hg => ?_); have hgm := List.mem_of_getElem? hg)
 | (refine nameB_cases (b := (List.take k s.Held).any _) (fun h => ?_) (fun h => ?_))
 | (refine nameB_cases (b := g.Writes.any _) (fun h => ?_) (fun h => ?_))
 | refine nameB_true ?_
 | refine nameB_false ?_
 | (refine nameB_dec (fun h => ?_) (fun h => ?_) <;> try simp only [lensB] at h)
 | (refine nameB_cases (fun h => ?_) (fun h => ?_) <;> try simp only [nmL, lensB] at h)
 | refine splitB_true ?_
 | refine splitB_false ?_
 | refine draw_text (by kernel_rfl) (by kernel_rfl) (by kernel_rfl) ?_
 | ((refine Loop_at [1, 6, 7] [0] (Nat) (fun k => allPre (heldI s) (s.Held.take k) (s.Held.drop k) = allPre (heldI s) [] s.Held ∧ k ≤ s.Held.length) (fun k => [(8, .int .i64 (k : Nat))]) (fun k => []) (fun k => s.Held.length - k) 0 ⟨by first | (simp_all <;> fail) | rfl | fail, trivial⟩ trivial (by (try dsimp only); first | (exact ⟨rfl, by omega⟩) | fail) ?_; (conv => whnf); refine side_and (side_of (by first | exact fun k => rfl | exact fun k => by simp [headOk, closedE, closedO, closedL, AV.closed, hcap.closed, hasId, AObj.box, BK.ofB])) ?_; rintro k hT; try dsimp only at hT))
 | (refine Again_of (k + 1) ⟨by first | rfl | exact i64_next (by omega) | (simp_all <;> fail) | fail, trivial⟩ trivial (by first | (and_intros <;> first | rfl | trivial) | fail) (by first | (and_intros <;> first | rfl | trivial) | fail) rfl rfl rfl (by (try dsimp only); first | (first | exact ⟨allPre_go hT.1 hg (heldI_yes (by assumption) (by omega) (prevB_zero (by assumption)) (by assumption) (by assumption)), by omega⟩ | exact ⟨allPre_go hT.1 hg (heldI_yes (by assumption) (by omega) ((prevB_pos (by assumption) hy).trans (decide_eq_true (by omega))) (by assumption) (by assumption)), by omega⟩) | fail) (show _ < _ by (try dsimp only); omega))
 | refine Call0 (c_ContainsFunc_Held (s.Held.take k) 115 [.rp g.cells] (clashB g) (by rw [List.length_take]; omega) ⟨fun _ => rfl, fun _ => rfl, fun _ => rfl, fun _ => rfl, fun _ => rfl⟩ (fun x hx => c_impl_State_areHeld_1 g x (hok.2.2.1.2 g hgm) (hok.2.2.1.2 x (List.mem_of_mem_take hx)))) rfl rfl ?_
 | refine Call0 (c_ContainsFunc_Write g.Writes 117 [.rp g.cells, .rp s.cells] (fun w => decide (g.Time ≤ lastI s.Cells w.Key)) (hok.2.2.1.2 g hgm).2.2.2.2.1 ⟨fun _ => rfl, fun _ => rfl, fun _ => rfl, fun _ => rfl, fun _ => rfl⟩ (fun w _ => c_impl_State_areHeld_2 g s w hok.2.1 hne)) rfl rfl ?_
 | refine Call0 (c_impl_State_room s s.Held hok hok.2.2.1 hsz) rfl rfl ?_
 | refine CallDT (c_impl_Held_rec g) rfl rfl rfl ⟨rfl, rfl⟩ ?_
 | refine CallD0 (c_impl_GoodRec g.rec1 (rec1_ok (hok.2.2.1.2 g hgm)) (hwl g hgm).1 (hwl g hgm).2) rfl rfl rfl ?_
 | refine sl_pre (by omega) (fun _ => rfl) ?_
 | refine side_and (side_of (by first | (and_intros <;> first | exact Nat.le_of_ble_eq_true rfl | rfl | omega | (simp only [lensB, lensC]; omega) | exact bytes_ok (Nat.le_of_ble_eq_true rfl) (by omega) (by simp only [lensB, lensC]; omega) | exact bytes_okN (Nat.le_of_ble_eq_true rfl) (by simp only [lensB, lensC]; omega)) | fail)) ?_
 | refine LoadK_of rfl rfl ?_
 | fail
  all_goals
    conv => whnf
    refine OutA_plain rfl rfl ?_
    first
    | (have hb := allPre_bad hT.1 hg (heldI_no (.inl (by assumption))); simp only [areHeldI, hb, Bool.false_and]; rfl)
    | (have hb := allPre_bad hT.1 hg (heldI_no (.inr (.inl (by omega)))); simp only [areHeldI, hb, Bool.false_and]; rfl)
    | (have hb := allPre_bad hT.1 hg (heldI_no (.inr (.inr (.inl ((prevB_pos (by assumption) hy).trans (decide_eq_false (by omega))))))); simp only [areHeldI, hb, Bool.false_and]; rfl)
    | (have hb := allPre_bad hT.1 hg (heldI_no (.inr (.inr (.inr (.inl (by assumption)))))); simp only [areHeldI, hb, Bool.false_and]; rfl)
    | (have hb := allPre_bad hT.1 hg (heldI_no (.inr (.inr (.inr (.inr (by assumption)))))); simp only [areHeldI, hb, Bool.false_and]; rfl)
    | (have hb := allPre_end hT.1 (by assumption); simp only [areHeldI, hb, *, Bool.true_and]; rfl)
end Go.Proofs.YthbheejeloomjaaGreat
