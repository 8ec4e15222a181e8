/-
  What the program's GoodState gives, and the functions that ask it.
  No condition.
-/
import Derived.Test.YthbheejeloomjaaGreatState5
namespace Go.Proofs.YthbheejeloomjaaGreat
open Go.Ab
set_option linter.unusedSimpArgs false
set_option maxRecDepth 20000
set_option maxHeartbeats 4000000
set_option linter.unusedVariables false

theorem c_impl_isTrue6 (n : Int) : PC Tryz.prog false 25 [.int .i64 n] (.bool (inB 0 n 100000)) [] := by
  refine pc_at Tryz.func25 rfl (by kernel_rfl) 5 [.tmp 2] rfl rfl ?_
  repeat' (conv => whnf); first
 | (refine nameB_cases (fun h => ?_) (fun h => ?_) <;> try simp only [nmL, lensB] at h)
 | refine Call0 (c_impl_within ..) rfl rfl ?_
 | fail
  all_goals
    conv => whnf
    refine OutA_plain rfl rfl ?_
    first
    | rfl
    | (simp only [*, named, AV.sub, AV.sub.subL, Bool.and_true, Bool.and_false, Bool.true_and, Bool.false_and, Bool.or_true, Bool.or_false, Bool.true_or, Bool.false_or, Bool.not_true, Bool.not_false, if_true, if_false, decide_true, decide_false, Bool.false_eq_true, Bool.and_self]; done)
    | (simp_all [named, AV.sub, AV.sub.subL]; done)
    | (simp_all [named, AV.sub, AV.sub.subL] <;> (intros; omega))
    | (exfalso; omega)
theorem allPre_mem {α : Type} {q : List α → α → Bool} : ∀ {xs pre : List α} {x : α}, allPre q pre xs = true → x ∈ xs → ∃ pre', q pre' x = true
  | [], _, _, _, h => by cases h
  | y :: ys, pre, x, hq, h => by
    simp only [allPre, Bool.and_eq_true] at hq
    rcases List.mem_cons.1 h with rfl | h
    · exact ⟨pre, hq.1⟩
    · exact allPre_mem hq.2 h
theorem okCells_mem {cs : List CellT} (h : okCells cs = true) {c : CellT} (hc : c ∈ cs) : okVers c.Vers = true ∧ okKey c.Key = true := by
  simp only [okCells, Bool.and_eq_true] at h
  obtain ⟨pre, hp⟩ := allPre_mem h.1 hc
  simp only [cellAt, Bool.and_eq_true] at hp
  exact hp.1
theorem inBB {a n b : Int} (h : inB a n b = true) : a ≤ n ∧ n ≤ b := by simpa only [inB, Bool.and_eq_true, decide_eq_true_eq] using h
theorem okCells_ne {cs : List CellT} (h : okCells cs = true) : ∀ c ∈ cs, 0 < c.Vers.length := by
  intro c hc
  have h1 := (okCells_mem h hc).1
  simp only [okVers, Bool.and_eq_true] at h1
  have := inBB h1.2
  omega
theorem flatW_w (hs : List HeldT) : (flatW hs).length ≤ wL HeldT.w hs := by
  induction hs with
  | nil => exact Nat.zero_le _
  | cons h hs ih =>
    have e1 : (flatW (h :: hs)).length = h.Writes.length + (flatW hs).length := by simp [flatW]
    have e2 : wL HeldT.w (h :: hs) = 1 + HeldT.w h + wL HeldT.w hs := by simp only [wL, List.length_cons, List.map_cons, List.sum_cons]; omega
    have e3 : h.Writes.length ≤ HeldT.w h := by
      have : wL WriteT.w h.Writes ≤ HeldT.w h := by unfold HeldT.w; omega
      exact Nat.le_trans wL_len this
    omega
theorem state_sz {s : StateT} (hw : s.w ≤ 1048576) : s.Cells.length + (flatW s.Held).length ≤ 2097152 := by
  have h1 := flatW_w s.Held
  have h2 : s.Cells.length ≤ wL CellT.w s.Cells := wL_len
  have h3 : s.w = wL CellT.w s.Cells + wL HeldT.w s.Held + s.Told.length := rfl
  omega
theorem state_wl {s : StateT} (hw : s.w ≤ 1048576) : ∀ h ∈ s.Held, h.Writes.length ≤ 1048576 ∧ h.Reads.length ≤ 1048576 := by
  intro h hh
  have h1 := (wL_mem (w := HeldT.w) hh).2
  have h3 : s.w = wL CellT.w s.Cells + wL HeldT.w s.Held + s.Told.length := rfl
  have e1 : wL WriteT.w h.Writes ≤ HeldT.w h := by unfold HeldT.w; omega
  have e2 : h.Reads.length ≤ HeldT.w h := by
    have := wL_len (w := List.length) (xs := h.Reads)
    unfold HeldT.w; unfold wL at this ⊢; omega
  have e3 := wL_len (w := WriteT.w) (xs := h.Writes)
  omega
def fitT (s : StateT) (t : ToldT) : Bool := if t.Yes = true then inB 1 t.Time s.Floor else decide (t.Time = 0)
def toldI (s : StateT) (pre : List ToldT) (t : ToldT) : Bool := inB 1 t.Txn 60 && fitT s t && prevB (fun a b => decide (a.Txn < b.Txn)) pre t && !bsHit (hK t.Txn) s.Held
def okStateI (s : StateT) : Bool := (inB 0 s.Floor 100000 && okCells s.Cells && areHeldI s && decide ((s.Told.length : Int) ≤ 60)) && (!(s.Cells.any fun c => decide (lastI s.Cells c.Key > s.Floor)) && allPre (toldI s) [] s.Told)
theorem toldI_no {s : StateT} {pre : List ToldT} {t : ToldT} (q : inB 1 t.Txn 60 = false ∨ fitT s t = false ∨ prevB (fun a b : ToldT => decide (a.Txn < b.Txn)) pre t = false ∨ bsHit (hK t.Txn) s.Held = true) : toldI s pre t = false := by
  rcases q with q | q | q | q <;> simp only [toldI, q, Bool.not_true, Bool.false_and, Bool.and_false]
theorem toldI_yes {s : StateT} {pre : List ToldT} {t : ToldT} (q1 : inB 1 t.Txn 60 = true) (q2 : fitT s t = true) (q3 : prevB (fun a b : ToldT => decide (a.Txn < b.Txn)) pre t = true) (q4 : bsHit (hK t.Txn) s.Held = false) : toldI s pre t = true := by
  simp only [toldI, q1, q2, q3, q4, Bool.not_false, Bool.true_and, Bool.and_true]
theorem fit1 {s : StateT} {t : ToldT} {b : Bool} (h : t.Yes = true) (h2 : inB 1 t.Time s.Floor = b) : fitT s t = b := by simp only [fitT, h, if_true, h2]
theorem fit2 {s : StateT} {t : ToldT} {b : Bool} (h : t.Yes = false) (h2 : decide (t.Time = 0) = b) : fitT s t = b := by simp only [fitT, h, Bool.false_eq_true, if_false, h2]
theorem c_impl_GoodState (s : StateT) (hok : s.ok) (hw : s.w ≤ 1048576) : PC Tryz.prog false 48 [.agg s.cells] (.bool (okStateI s)) [] := by
  have hl := hok.2.1.1
  have hl2 := hok.2.2.2.1
  have hwc : s.Cells.length ≤ 1048576 := by have := state_sz hw; have h3 : s.w = wL CellT.w s.Cells + wL HeldT.w s.Held + s.Told.length := rfl; have := wL_len (w := CellT.w) (xs := s.Cells); omega
  refine pc_at Tryz.func48 rfl (by kernel_rfl) 107 [.tmp 2] rfl rfl ?_
  repeat' (conv => whnf); first
 | refine ix_as (m := j - 1) (by simp only [i64_wrap_eq]; omega) (by omega) (fun y hy => ?_)
 | refine ix_as (m := j) rfl (by omega) (fun g hg => ?_)
 | (refine nameB_cases (b := g.Yes) (fun h => ?_) (fun h => ?_))
 | (refine nameB_cases (b := bsHit (hK g.Txn) s.Held) (fun h => ?_) (fun h => ?_))
 | refine nameB_true ?_
 | refine nameB_false ?_
 | (refine nameB_dec (fun h => ?_) (fun h => ?_) <;> try simp only [lensB] at h)
 | (refine nameB_cases (fun h => ?_) (fun h => ?_) <;> try simp only [nmL, lensB] at h)
 | refine splitB_true ?_
 | refine splitB_false ?_
 | refine draw_text (by kernel_rfl) (by kernel_rfl) (by kernel_rfl) ?_
 | (refine Loop_at [1, 32, 33] [0] (Nat) (fun k => ((s.Cells.drop k).any fun c => decide (lastI s.Cells c.Key > s.Floor)) = (s.Cells.any fun c => decide (lastI s.Cells c.Key > s.Floor)) ∧ k ≤ s.Cells.length) (fun k => [(34, .int .i64 (k : Nat))]) (fun k => []) (fun k => s.Cells.length - k) 0 ⟨by first | (simp_all <;> fail) | rfl | fail, trivial⟩ trivial (by (try dsimp only); first | (exact ⟨rfl, by omega⟩) | fail) ?_; (conv => whnf); refine side_and (side_of (by first | exact fun k => rfl | exact fun k => by simp [headOk, closedE, closedO, closedL, AV.closed, hcap.closed, hasId, AObj.box, BK.ofB])) ?_; rintro k hT; try dsimp only at hT)
 | (refine Loop_at [1, 48, 49] [0] (Nat) (fun j => allPre (toldI s) (s.Told.take j) (s.Told.drop j) = allPre (toldI s) [] s.Told ∧ j ≤ s.Told.length) (fun j => [(50, .int .i64 (j : Nat))]) (fun j => []) (fun j => s.Told.length - j) 0 ⟨by first | (simp_all <;> fail) | rfl | fail, trivial⟩ trivial (by (try dsimp only); first | (exact ⟨rfl, by omega⟩) | fail) ?_; (conv => whnf); refine side_and (side_of (by first | exact fun j => rfl | exact fun j => by simp [headOk, closedE, closedO, closedL, AV.closed, hcap.closed, hasId, AObj.box, BK.ofB])) ?_; rintro j hJ; try dsimp only at hJ)
 | refine Again_of (k + 1) ⟨by first | rfl | exact i64_next (by omega) | (simp_all <;> fail) | fail, trivial⟩ trivial (by first | (and_intros <;> first | rfl | trivial) | fail) (by first | (and_intros <;> first | rfl | trivial) | fail) rfl rfl rfl (by (try dsimp only); first | (exact ⟨any_go hT.1 hx (decide_eq_false (by assumption)), by omega⟩) | fail) (show _ < _ by (try dsimp only); omega)
 | refine Again_of (j + 1) ⟨by first | rfl | exact i64_next (by omega) | (simp_all <;> fail) | fail, trivial⟩ trivial (by first | (and_intros <;> first | rfl | trivial) | fail) (by first | (and_intros <;> first | rfl | trivial) | fail) rfl rfl rfl (by (try dsimp only); first | (first | exact ⟨allPre_go hJ.1 hg (toldI_yes (by assumption) (fit1 (by assumption) (by assumption)) (prevB_zero (by assumption)) (by assumption)), by omega⟩ | exact ⟨allPre_go hJ.1 hg (toldI_yes (by assumption) (fit1 (by assumption) (by assumption)) ((prevB_pos (by assumption) hy).trans (decide_eq_true (by omega))) (by assumption)), by omega⟩ | exact ⟨allPre_go hJ.1 hg (toldI_yes (by assumption) (fit2 (by assumption) (decide_eq_true (by assumption))) (prevB_zero (by assumption)) (by assumption)), by omega⟩ | exact ⟨allPre_go hJ.1 hg (toldI_yes (by assumption) (fit2 (by assumption) (decide_eq_true (by assumption))) ((prevB_pos (by assumption) hy).trans (decide_eq_true (by omega))) (by assumption)), by omega⟩) | fail) (show _ < _ by (try dsimp only); omega)
 | refine Call0 (c_impl_isTrue6 ..) rfl rfl ?_
 | refine Call0 (c_impl_within ..) rfl rfl ?_
 | refine Call0 (c_impl_GoodCells s.Cells hok.2.1 hwc) rfl rfl ?_
 | refine Call0 (c_impl_State_areHeld s hok (okCells_ne (by assumption)) hw (state_sz hw) (state_wl hw)) rfl rfl ?_
 | refine Call0 (c_impl_State_findHeld s g.Txn hok) rfl rfl ?_
 | refine CallD0 (c_impl_isTxn ..) rfl rfl rfl ?_
 | refine CallD0 (c_impl_lastTime s.Cells x.Key hok.2.1 (okCells_ne (by assumption))) rfl rfl rfl ?_
 | (refine ix_map (by omega) (by (try simp only [List.length_take]); omega) (fun x hx => ?_); try simp only [Int.toNat_natCast] at hx)
 | refine side_and (side_of (by first | (and_intros <;> first | exact Nat.le_of_ble_eq_true rfl | rfl | omega | (simp only [lensB, lensC]; omega) | exact bytes_ok (Nat.le_of_ble_eq_true rfl) (by omega) (by simp only [lensB, lensC]; omega) | exact bytes_okN (Nat.le_of_ble_eq_true rfl) (by simp only [lensB, lensC]; omega)) | fail)) ?_
 | refine LoadK_of rfl rfl ?_
 | fail
  all_goals
    conv => whnf
    refine OutA_plain rfl rfl ?_
    first
    | (simp only [okStateI, *, Bool.false_and, Bool.and_false, Bool.true_and, decide_false]; rfl)
    | (have hb : decide ((s.Told.length : Int) ≤ 60) = false := decide_eq_false (by omega); simp only [okStateI, hb, Bool.and_false, Bool.false_and]; rfl)
    | (have hb := any_hit hT.1 hx (decide_eq_true (by assumption)); simp only [okStateI, hb, Bool.not_true, Bool.false_and, Bool.and_false]; rfl)
    | (have hb := allPre_bad hJ.1 hg (toldI_no (.inl (by assumption))); simp only [okStateI, hb, Bool.and_false]; rfl)
    | (have hb := allPre_bad hJ.1 hg (toldI_no (.inr (.inl (fit1 (by assumption) (by assumption))))); simp only [okStateI, hb, Bool.and_false]; rfl)
    | (have hb := allPre_bad hJ.1 hg (toldI_no (.inr (.inl (fit2 (by assumption) (decide_eq_false (by assumption)))))); simp only [okStateI, hb, Bool.and_false]; rfl)
    | (have hb := allPre_bad hJ.1 hg (toldI_no (.inr (.inr (.inl ((prevB_pos (by assumption) hy).trans (decide_eq_false (by omega))))))); simp only [okStateI, hb, Bool.and_false]; rfl)
    | (have hb := allPre_bad hJ.1 hg (toldI_no (.inr (.inr (.inr (by assumption))))); simp only [okStateI, hb, Bool.and_false]; rfl)
    | (have hb := any_end hT.1 (by assumption); have hb2 := allPre_end hJ.1 (by assumption); simp_all [okStateI, named, AV.sub]; done)
    | (exfalso; have q1 : g.Yes = true := (by assumption); have q2 : g.Yes = false := (by assumption); exact absurd (q1.symm.trans q2) (by decide))
end Go.Proofs.YthbheejeloomjaaGreat
