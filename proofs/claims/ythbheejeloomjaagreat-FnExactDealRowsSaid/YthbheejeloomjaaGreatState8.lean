/-
  What the reference's GoodState gives.
  No condition.
-/
import Derived.Test.YthbheejeloomjaaGreatState7
namespace Go.Proofs.YthbheejeloomjaaGreat
open Go.Ab
set_option linter.unusedSimpArgs false
set_option maxRecDepth 20000
set_option maxHeartbeats 4000000
set_option linter.unusedVariables false

theorem c_spec_l1OwnS (xs : List (List UInt8)) (hl : xs.length ≤ 1048576) : PC Tryz.prog false 155 [.sl (xs.map strC)] (.own 0) [⟨false, 9, 1, xs.map strC⟩] := by
  refine pc_at Tryz.func155 rfl (by kernel_rfl) 6 [.tmp 2] rfl rfl ?_
  repeat' (conv => whnf); first
 | refine side_and (side_of (by first | (and_intros <;> first | exact Nat.le_of_ble_eq_true rfl | rfl | omega | (simp only [lensB, lensC]; omega) | exact bytes_ok (Nat.le_of_ble_eq_true rfl) (by omega) (by simp only [lensB, lensC]; omega) | exact bytes_okN (Nat.le_of_ble_eq_true rfl) (by simp only [lensB, lensC]; omega)) | fail)) ?_
 | refine side_and (side_of (map_len (fun _ => rfl))) ?_
 | refine side_and (side_of (map_one (fun _ => rfl) _)) ?_
 | fail
  all_goals
    conv => whnf
    exact OutA_ids rfl rfl rfl ⟨⟨_, _, _, rfl, rfl⟩, trivial⟩ rfl (.inr (flat_one (flat_map (fun _ => rfl) _)))
def putGo (l : List (List UInt8)) (s : List UInt8) : Nat → Nat
  | 0 => 0
  | k + 1 => match l[k]? with | some x => if Op.bytesLess s x = true then putGo l s k else k + 1 | none => k + 1
theorem putGo_le (l : List (List UInt8)) (s : List UInt8) : ∀ k, putGo l s k ≤ k
  | 0 => Nat.le_refl _
  | k + 1 => by
    have ih := putGo_le l s k
    unfold putGo
    split
    · split <;> omega
    · omega
def putS (l : List (List UInt8)) (s : List UInt8) : List (List UInt8) := if 0 < putGo l s l.length ∧ l[putGo l s l.length - 1]? = some s then l else l.take (putGo l s l.length) ++ [s] ++ l.drop (putGo l s l.length)
theorem putS_len (l : List (List UInt8)) (s : List UInt8) : (putS l s).length ≤ l.length + 1 := by
  unfold putS
  split
  · omega
  · simp only [List.length_append, List.length_take, List.length_cons, List.length_nil, List.length_drop]; omega
theorem putGo_next {l : List (List UInt8)} {s x : List UInt8} {k K : Nat} (h : putGo l s k = K) (hk : (k : Int) > 0) (hx : l[k - 1]? = some x) (hb : Op.bytesLess s x = true) : putGo l s (k - 1) = K := by
  obtain ⟨k, rfl⟩ : ∃ m, k = m + 1 := ⟨k - 1, by omega⟩
  simp only [Nat.add_sub_cancel] at hx ⊢
  unfold putGo at h
  simp only [hx, hb, if_true] at h
  exact h
theorem putGo_stop {l : List (List UInt8)} {s x : List UInt8} {k K : Nat} (h : putGo l s k = K) (hk : (k : Int) > 0) (hx : l[k - 1]? = some x) (hb : Op.bytesLess s x = false) : K = k := by
  obtain ⟨k, rfl⟩ : ∃ m, k = m + 1 := ⟨k - 1, by omega⟩
  simp only [Nat.add_sub_cancel] at hx
  unfold putGo at h
  simp only [hx, hb, Bool.false_eq_true, if_false] at h
  exact h.symm
theorem putGo_zero {l : List (List UInt8)} {s : List UInt8} {k K : Nat} (h : putGo l s k = K) (hk : ¬ (k : Int) > 0) : K = k := by
  obtain rfl : k = 0 := by omega
  unfold putGo at h
  exact h.symm
theorem putS_same {l : List (List UInt8)} {s : List UInt8} {k : Nat} (h : putGo l s l.length = k) (hk : (k : Int) > 0) (hx : l[k - 1]? = some s) : putS l s = l := by
  unfold putS
  rw [h, if_pos ⟨by omega, hx⟩]
theorem putS_new {l : List (List UInt8)} {s : List UInt8} {k : Nat} (h : putGo l s l.length = k) (hx : ¬ (k : Int) > 0 ∨ ∃ x, l[k - 1]? = some x ∧ ¬ x = s) : putS l s = l.take k ++ [s] ++ l.drop k := by
  unfold putS
  rw [h, if_neg]
  rintro ⟨h1, h2⟩
  rcases hx with hx | ⟨x, hx, hne⟩
  · omega
  · rw [hx] at h2; cases h2; exact hne rfl
theorem put_cells {l : List (List UInt8)} {s : List UInt8} {k : Nat} {L : List (List AV)} (hp : putS l s = l.take k ++ [s] ++ l.drop k) (hL : L = [strC s]) : ((l.take k).map strC ++ L) ++ (l.drop k).map strC = (putS l s).map strC := by
  rw [hp, hL]; simp
theorem c_spec_l4PutS (l : List (List UInt8)) (s : List UInt8) (hl : l.length ≤ 1048576) : PC Tryz.prog true 139 [.sl (l.map strC), .str s] (.sl ((putS l s).map strC)) [] := by
  refine pc_at Tryz.func139 rfl (by kernel_rfl) 47 [.tmp 4] rfl rfl ?_
  repeat' (conv => whnf); first
 | refine ix_at (m := k - 1) (by simp only [i64_wrap_eq]; omega) hy ?_
 | refine ix_as (m := k - 1) (by simp only [i64_wrap_eq]; omega) (by omega) (fun y hy => ?_)
 | (conv => arg 1; rw [bl_leq, Bool.not_not])
 | (refine nameB_cases (b := Op.bytesLess s y) (fun h => ?_) (fun h => ?_))
 | refine sl_pre (m := k) (by omega) (fun _ => rfl) ?_
 | refine sl_suf (m := k) (by omega) (fun _ => rfl) ?_
 | refine side_and (side_of (one_lenC rfl rfl)) ?_
 | refine side_and (side_of (by first | (and_intros <;> first | exact Nat.le_of_ble_eq_true rfl | rfl | (intro e; exact absurd (AV.own.inj e) (by decide)) | (intro e; exact AV.noConfusion e)) | fail)) ?_
 | refine side_and (side_of (app_boundC (L := (l.take k).map strC) rfl (by (try simp only [List.length_map, List.length_append, List.length_take, List.length_set, List.length_drop]); omega) (Nat.le_of_ble_eq_true rfl))) ?_
 | refine side_and (side_of (app_bound2 (L := (l.take k).map strC ++ [strC s]) (M := (l.drop k).map strC) (by (try simp only [List.length_map, List.length_append, List.length_take, List.length_set, List.length_drop, List.length_cons, List.length_nil]); omega) (Nat.le_of_ble_eq_true rfl))) ?_
 | refine nameB_dyes (by assumption) ?_
 | refine nameB_dno (by assumption) ?_
 | (refine nameB_dec (fun h => ?_) (fun h => ?_) <;> try simp only [lensB] at h)
 | (refine nameB_cases (fun h => ?_) (fun h => ?_) <;> try simp only [nmL, lensB] at h)
 | refine splitB_true ?_
 | refine splitB_false ?_
 | ((refine Loop_at [0, 1] [] (Nat) (fun k => putGo l s k = putGo l s l.length ∧ k ≤ l.length) (fun k => [(5, .int .i64 (k : Nat))]) (fun k => []) (fun k => k) l.length ⟨by first | first | exact congrArg (fun n : Nat => AV.int .i64 (n : Int)) (List.length_map (strC)) | exact congrArg (AV.int .i64) (by rw [i64_wrap_eq]; omega) | rfl | fail, trivial⟩ trivial (by (try dsimp only); first | (exact ⟨rfl, Nat.le_refl _⟩) | fail) ?_; (conv => whnf); refine side_and (side_of (by first | exact fun k => rfl | exact fun k => by simp [headOk, closedE, closedO, closedL, AV.closed, hcap.closed, hasId, AObj.box, BK.ofB])) ?_; rintro k hT; try dsimp only at hT))
 | (refine Again_of (k - 1) ⟨by first | rfl | exact i64_next (by omega) | first | exact congrArg (fun n : Nat => AV.int .i64 (n : Int)) (List.length_map (strC)) | exact congrArg (AV.int .i64) (by rw [i64_wrap_eq]; omega) | fail, trivial⟩ trivial (by first | (and_intros <;> first | rfl | trivial) | fail) (by first | (and_intros <;> first | rfl | trivial) | fail) rfl rfl rfl (by (try dsimp only); first | (exact ⟨putGo_next hT.1 (by assumption) hy (by assumption), by omega⟩) | fail) (show _ < _ by (try dsimp only); omega))
 | refine CallF (c_spec_l1OwnS (l.take k) (by rw [List.length_take]; omega)) rfl rfl rfl (Nat.le_of_ble_eq_true rfl) ?_
 | refine CallF (c_spec_l1OwnS (l.drop k) (by rw [List.length_drop]; omega)) rfl rfl rfl (Nat.le_of_ble_eq_true rfl) ?_
 | refine side_and (side_of (map_len (fun _ => rfl))) ?_
 | refine side_and (side_of (map_one (fun _ => rfl) _)) ?_
 | fail
  all_goals
    conv => whnf
    first
    | (refine OutA_plain rfl rfl ?_; exact congrArg (fun l : List (List UInt8) => AV.sl (l.map strC)) (putS_same (putGo_stop hT.1 (by assumption) hy (by assumption)) (by assumption) (by rw [hy]; exact congrArg some (by assumption))).symm)
    | (refine OutA_frz [28720] ?_; (conv => whnf); refine OutA_plain rfl rfl ?_; exact congrArg AV.sl (put_cells (putS_new (by first | exact putGo_zero hT.1 (by assumption) | exact putGo_stop hT.1 (by assumption) hy (by assumption)) (by first | exact .inl (by assumption) | exact .inr ⟨_, hy, by assumption⟩)) rfl))
def fullS (cells : List CellT) (w : WriteT) : Bool := match cells.find? (kEq w.Key) with | some c => decide ((c.Vers.length : Int) ≥ 16) | none => false
def allW (ws : List WriteT) (hs : List HeldT) : List WriteT := ws ++ (hs.map HeldT.Writes).flatten
def pC (ks : List (List UInt8)) (c : CellT) : List (List UInt8) := putS ks c.Key
def pW (ks : List (List UInt8)) (w : WriteT) : List (List UInt8) := putS ks w.Key
def keysS (cells : List CellT) (all : List WriteT) : List (List UInt8) := all.foldl pW (cells.foldl pC [])
def roomS (cells : List CellT) (hs : List HeldT) (ws : List WriteT) : Bool := !((allW ws hs).any (fullS cells)) && decide (((keysS cells (allW ws hs)).length : Int) ≤ 24)
theorem foldl_snoc {α β : Type} {g : β → α → β} {xs : List α} {k : Nat} {x : α} {b : β} (hx : xs[k]? = some x) : (xs.take (k + 1)).foldl g b = g ((xs.take k).foldl g b) x := by
  rw [take_get hx, List.foldl_append]; rfl
theorem foldC_len : ∀ (cs : List CellT) (ks : List (List UInt8)), (cs.foldl pC ks).length ≤ ks.length + cs.length
  | [], ks => by simp
  | c :: cs, ks => by
    have h1 := foldC_len cs (pC ks c)
    have h2 := putS_len ks c.Key
    simp only [List.foldl_cons, List.length_cons]
    unfold pC at h1 ⊢
    omega
theorem foldW_len : ∀ (cs : List WriteT) (ks : List (List UInt8)), (cs.foldl pW ks).length ≤ ks.length + cs.length
  | [], ks => by simp
  | c :: cs, ks => by
    have h1 := foldW_len cs (pW ks c)
    have h2 := putS_len ks c.Key
    simp only [List.foldl_cons, List.length_cons]
    unfold pW at h1 ⊢
    omega
theorem allW_next {ws : List WriteT} {hs : List HeldT} {i : Nat} {h : HeldT} (hx : hs[i]? = some h) : allW ws (hs.take (i + 1)) = allW ws (hs.take i) ++ h.Writes := by
  unfold allW
  rw [take_get hx, List.map_append, List.flatten_append, List.append_assoc]
  simp
theorem allW_le (ws : List WriteT) (hs : List HeldT) (i : Nat) : (allW ws (hs.take i)).length ≤ (allW ws hs).length := by
  conv => rhs; rw [← List.take_append_drop i hs]
  unfold allW
  rw [List.map_append, List.flatten_append, List.length_append, List.length_append, List.length_append]
  omega
theorem allW_nle {ws : List WriteT} {hs : List HeldT} {i : Nat} {h : HeldT} (hx : hs[i]? = some h) : (allW ws (hs.take i)).length + h.Writes.length ≤ (allW ws hs).length := by
  have h1 := allW_le ws hs (i + 1)
  rw [allW_next hx, List.length_append] at h1
  exact h1
theorem aw1 {ws : List WriteT} {hs : List HeldT} {i : Nat} {h : HeldT} (hx : hs[i]? = some h) : (allW ws (hs.take i)).map WriteT.cells ++ h.Writes.map WriteT.cells = (allW ws (hs.take (i + 1))).map WriteT.cells := by
  rw [allW_next hx, List.map_append]
theorem aw0 {ws : List WriteT} {hs : List HeldT} : ws.map WriteT.cells = (allW ws (hs.take 0)).map WriteT.cells := by simp [allW]
theorem aw2 {ws : List WriteT} {hs : List HeldT} {i : Nat} (hi : ¬ (i : Int) < hs.length) : AV.sl ((allW ws (hs.take i)).map WriteT.cells) = AV.sl ((allW ws hs).map WriteT.cells) := by rw [List.take_of_length_le (by omega)]
theorem aw3 {ws : List WriteT} {hs : List HeldT} {i : Nat} (hi : ¬ (i : Int) < hs.length) : AV.int .i64 (((allW ws (hs.take i)).map WriteT.cells).length : Nat) = AV.int .i64 ((allW ws hs).length : Nat) := by rw [List.take_of_length_le (by omega), List.length_map]
theorem full1 {cells : List CellT} {w : WriteT} (h : idxF (kEq w.Key) 0 cells < 0) : fullS cells w = false := by unfold fullS; rw [idxF_none (k := 0) h]
theorem full2 {cells : List CellT} {w : WriteT} {c : CellT} {b : Bool} (h : idxF (kEq w.Key) 0 cells ≥ 0) (hx : cells[(idxF (kEq w.Key) 0 cells).toNat]? = some c) (hb : decide ((c.Vers.length : Int) ≥ 16) = b) : fullS cells w = b := by
  unfold fullS
  rw [idxF_find (k := 0) rfl h, Nat.sub_zero, hx]
  exact hb
theorem c_spec_l13Room (s : StateT) (ws : List WriteT) (hok : s.ok) (hsz : s.Cells.length + (allW ws s.Held).length ≤ 1048576) : PC Tryz.prog false 103 [.agg s.cells, .sl (ws.map WriteT.cells)] (.bool (roomS s.Cells s.Held ws)) [] := by
  have hl := hok.2.1.1
  have hl2 := hok.2.2.1.1
  have hws : ws.length ≤ (allW ws s.Held).length := by unfold allW; rw [List.length_append]; omega
  refine pc_at Tryz.func103 rfl (by kernel_rfl) 72 [.tmp 4] rfl rfl ?_
  repeat' (conv => whnf); first
 | (refine ix_as (f := WriteT.cells) (m := j) rfl (by omega) (fun w hw => ?_))
 | (refine ix_as (f := HeldT.cells) (m := i) rfl (by omega) (fun g hg => ?_); have hgn := allW_nle (ws := ws) hg)
 | (refine ix_as (f := CellT.cells) (m := k) rfl (by omega) (fun x hx => ?_))
 | (refine ix_as (f := CellT.cells) (m := (idxF (kEq w.Key) 0 s.Cells).toNat) (by omega) (idxF_bound (by omega)) (fun c hc => ?_))
 | refine side_and (side_of (by first | (and_intros <;> first | exact Nat.le_of_ble_eq_true rfl | rfl | (intro e; exact absurd (AV.own.inj e) (by decide)) | (intro e; exact AV.noConfusion e)) | fail)) ?_
 | refine side_and (side_of (app_bound2 (L := (allW ws (s.Held.take i)).map WriteT.cells) (M := g.Writes.map WriteT.cells) (by (try simp only [List.length_map, List.length_append, List.length_take, List.length_set, List.length_drop, List.length_cons, List.length_nil]); omega) (Nat.le_of_ble_eq_true rfl))) ?_
 | (refine nameB_dec (fun h => ?_) (fun h => ?_) <;> try simp only [lensB] at h)
 | refine splitB_true ?_
 | refine splitB_false ?_
 | (refine Loop_nilS 5 rfl ?_; refine Loop_at [1, 2, 15, 16] [0] (Nat) (fun k => k ≤ s.Cells.length) (fun k => [(17, .int .i64 (k : Nat)), (5, .sl (((s.Cells.take k).foldl pC []).map strC))]) (fun k => []) (fun k => s.Cells.length - k) 0 ⟨by first | exact congrArg (fun l : List (List UInt8) => AV.sl (l.map strC)) (foldl_snoc (g := pC) hx).symm | rfl | fail, by first | rfl | exact congrArg (fun l : List (List UInt8) => AV.sl (l.map strC)) (foldl_snoc (g := pC) hx).symm | fail, trivial⟩ trivial (by (try dsimp only); first | (exact Nat.zero_le _) | fail) ?_; (conv => whnf); refine side_and (side_of (by first | exact fun k => rfl | exact fun k => by simp [headOk, closedE, closedO, closedL, AV.closed, hcap.closed, hasId, AObj.box, BK.ofB])) ?_; rintro k hK; try dsimp only at hK)
 | (refine Loop_at [2, 30, 31] [0] (Nat) (fun i => i ≤ s.Held.length) (fun i => [(32, .int .i64 (i : Nat)), (5, .sl ((s.Cells.foldl pC []).map strC)), (8, .own 28704)]) (fun i => [(28704, ⟨false, 53, 3, (allW ws (s.Held.take i)).map WriteT.cells⟩)]) (fun i => s.Held.length - i) 0 ⟨by first | exact congrArg (fun l : List CellT => AV.sl ((l.foldl pC []).map strC)) (List.take_of_length_le (by omega)) | rfl | fail, by first | rfl | exact congrArg (fun l : List CellT => AV.sl ((l.foldl pC []).map strC)) (List.take_of_length_le (by omega)) | fail, by first | rfl | exact congrArg (fun l : List CellT => AV.sl ((l.foldl pC []).map strC)) (List.take_of_length_le (by omega)) | fail, trivial⟩ ⟨by first | rfl | first | exact congrArg (fun e => some (AObj.mk false _ _ e)) (aw1 hg) | exact congrArg (fun e => some (AObj.mk false _ _ e)) aw0 | fail | fail, trivial⟩ (by (try dsimp only); first | (exact Nat.zero_le _) | fail) ?_; (conv => whnf); refine side_and (side_of (by first | exact fun i => rfl | exact fun i => by simp [headOk, closedE, closedO, closedL, AV.closed, hcap.closed, hasId, AObj.box, BK.ofB])) ?_; rintro i hI; try dsimp only at hI)
 | (refine Loop_frz [28704] ?_; refine Loop_at [2] [0] (Nat) (fun j => (((allW ws s.Held).drop j).any (fullS s.Cells)) = (allW ws s.Held).any (fullS s.Cells) ∧ j ≤ (allW ws s.Held).length) (fun j => [(43, .int .i64 (j : Nat)), (42, .int .i64 ((allW ws s.Held).length : Nat)), (41, .sl ((allW ws s.Held).map WriteT.cells)), (5, .sl ((((allW ws s.Held).take j).foldl pW (s.Cells.foldl pC [])).map strC))]) (fun j => []) (fun j => (allW ws s.Held).length - j) 0 ⟨by first | first | exact aw2 (by assumption) | exact aw3 (by assumption) | exact congrArg (fun l : List (List UInt8) => AV.sl (l.map strC)) (foldl_snoc (g := pW) hw).symm | rfl | fail, by first | first | exact aw2 (by assumption) | exact aw3 (by assumption) | exact congrArg (fun l : List (List UInt8) => AV.sl (l.map strC)) (foldl_snoc (g := pW) hw).symm | rfl | fail, by first | rfl | first | exact aw2 (by assumption) | exact aw3 (by assumption) | exact congrArg (fun l : List (List UInt8) => AV.sl (l.map strC)) (foldl_snoc (g := pW) hw).symm | fail, by first | rfl | first | exact aw2 (by assumption) | exact aw3 (by assumption) | exact congrArg (fun l : List (List UInt8) => AV.sl (l.map strC)) (foldl_snoc (g := pW) hw).symm | fail, trivial⟩ trivial (by (try dsimp only); first | (exact ⟨rfl, Nat.zero_le _⟩) | fail) ?_; (conv => whnf); refine side_and (side_of (by first | exact fun j => rfl | exact fun j => by simp [headOk, closedE, closedO, closedL, AV.closed, hcap.closed, hasId, AObj.box, BK.ofB])) ?_; rintro j hT; try dsimp only at hT)
 | refine Again_of (k + 1) ⟨by first | rfl | exact i64_next (by omega) | exact congrArg (fun l : List (List UInt8) => AV.sl (l.map strC)) (foldl_snoc (g := pC) hx).symm | fail, by first | rfl | exact congrArg (fun l : List (List UInt8) => AV.sl (l.map strC)) (foldl_snoc (g := pC) hx).symm | fail, trivial⟩ trivial (by first | (and_intros <;> first | rfl | trivial) | fail) (by first | (and_intros <;> first | rfl | trivial) | fail) rfl rfl rfl (by (try dsimp only); first | ((show k + 1 ≤ _; omega)) | fail) (show _ < _ by (try dsimp only); omega)
 | refine Again_of (i + 1) ⟨by first | rfl | exact i64_next (by omega) | exact congrArg (fun l : List CellT => AV.sl ((l.foldl pC []).map strC)) (List.take_of_length_le (by omega)) | fail, by first | rfl | exact congrArg (fun l : List CellT => AV.sl ((l.foldl pC []).map strC)) (List.take_of_length_le (by omega)) | fail, by first | rfl | exact congrArg (fun l : List CellT => AV.sl ((l.foldl pC []).map strC)) (List.take_of_length_le (by omega)) | fail, trivial⟩ ⟨by first | rfl | first | exact congrArg (fun e => some (AObj.mk false _ _ e)) (aw1 hg) | exact congrArg (fun e => some (AObj.mk false _ _ e)) aw0 | fail | fail, trivial⟩ (by first | (and_intros <;> first | rfl | trivial) | fail) (by first | (and_intros <;> first | rfl | trivial) | fail) rfl rfl rfl (by (try dsimp only); first | ((show i + 1 ≤ _; omega)) | fail) (show _ < _ by (try dsimp only); omega)
 | refine Again_of (j + 1) ⟨by first | rfl | exact i64_next (by omega) | first | exact aw2 (by assumption) | exact aw3 (by assumption) | exact congrArg (fun l : List (List UInt8) => AV.sl (l.map strC)) (foldl_snoc (g := pW) hw).symm | fail, by first | first | exact aw2 (by assumption) | exact aw3 (by assumption) | exact congrArg (fun l : List (List UInt8) => AV.sl (l.map strC)) (foldl_snoc (g := pW) hw).symm | rfl | fail, by first | rfl | first | exact aw2 (by assumption) | exact aw3 (by assumption) | exact congrArg (fun l : List (List UInt8) => AV.sl (l.map strC)) (foldl_snoc (g := pW) hw).symm | fail, by first | rfl | first | exact aw2 (by assumption) | exact aw3 (by assumption) | exact congrArg (fun l : List (List UInt8) => AV.sl (l.map strC)) (foldl_snoc (g := pW) hw).symm | fail, trivial⟩ trivial (by first | (and_intros <;> first | rfl | trivial) | fail) (by first | (and_intros <;> first | rfl | trivial) | fail) rfl rfl rfl (by (try dsimp only); first | (first | exact ⟨any_go hT.1 hw (full1 (by omega)), by omega⟩ | exact ⟨any_go hT.1 hw (full2 (by assumption) hc (decide_eq_false (by assumption))), by omega⟩) | fail) (show _ < _ by (try dsimp only); omega)
 | refine CallT (c_spec_l4PutS ((s.Cells.take k).foldl pC []) x.Key (by have := foldC_len (s.Cells.take k) []; simp only [List.length_take, List.length_nil] at this; omega)) rfl rfl rfl rfl (Nat.le_of_ble_eq_true rfl) ?_
 | refine CallT (c_spec_l4PutS (((allW ws s.Held).take j).foldl pW (s.Cells.foldl pC [])) w.Key (by have h1 := foldC_len s.Cells []; have h2 := foldW_len ((allW ws s.Held).take j) (s.Cells.foldl pC []); simp only [List.length_take, List.length_nil] at h1 h2; omega)) rfl rfl rfl rfl (Nat.le_of_ble_eq_true rfl) ?_
 | refine Call0 (c_spec_l3At s.Cells w.Key hl) rfl rfl ?_
 | refine side_and (side_of (by first | (and_intros <;> first | exact Nat.le_of_ble_eq_true rfl | rfl | omega | (simp only [lensB, lensC]; omega) | exact bytes_ok (Nat.le_of_ble_eq_true rfl) (by omega) (by simp only [lensB, lensC]; omega) | exact bytes_okN (Nat.le_of_ble_eq_true rfl) (by simp only [lensB, lensC]; omega)) | fail)) ?_
 | refine side_and (side_of (map_len (fun _ => rfl))) ?_
 | refine side_and (side_of (map_one (fun _ => rfl) _)) ?_
 | fail
  all_goals
    conv => whnf
    refine OutA_plain rfl rfl ?_
    first
    | (have hb := any_hit hT.1 hw (full2 (by omega) hc (decide_eq_true (by assumption))); simp only [roomS, hb, Bool.not_true, Bool.false_and]; rfl)
    | (have hb := any_end hT.1 (by assumption); rw [List.take_of_length_le (by omega)] at *; simp_all [roomS, keysS, named, AV.sub]; done)
    | (have hb := any_end hT.1 (by assumption); rw [List.take_of_length_le (by omega)] at *; simp_all [roomS, keysS, named, AV.sub] <;> exact decide_eq_false (by omega))
end Go.Proofs.YthbheejeloomjaaGreat
