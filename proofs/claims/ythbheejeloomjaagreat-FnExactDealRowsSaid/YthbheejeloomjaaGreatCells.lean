/-
  What the functions on cells and records give.
  No condition.
-/
import Derived.Test.YthbheejeloomjaaGreatCuts
import Derived.Test.YthbheejeloomjaaGreatTypesB
import Derived.Test.YthbheejeloomjaaGreatM4
namespace Go.Proofs.YthbheejeloomjaaGreat
open Go.Ab
set_option linter.unusedSimpArgs false
set_option maxRecDepth 20000
set_option maxHeartbeats 2000000
set_option linter.unusedVariables false

def prevB {α : Type} (r : α → α → Bool) (pre : List α) (x : α) : Bool := match pre.getLast? with | none => true | some y => r y x
theorem prevB_zero {α : Type} {r : α → α → Bool} {xs : List α} {k : Nat} {x : α} (hk : ¬ (k : Int) > 0) : prevB r (xs.take k) x = true := by
  obtain rfl : k = 0 := by omega
  simp [prevB]
theorem prevB_pos {α : Type} {r : α → α → Bool} {xs : List α} {k : Nat} {x y : α} (hk : (k : Int) > 0) (hy : xs[k - 1]? = some y) : prevB r (xs.take k) x = r y x := by
  obtain ⟨k, rfl⟩ : ∃ m, k = m + 1 := ⟨k - 1, by omega⟩
  simp only [Nat.add_sub_cancel] at hy
  rw [take_get hy]
  simp [prevB]
def okTime (n : Int) : Bool := inB 1 n 100000
def okVal (s : List UInt8) : Bool := decide ((s.length : Int) ≤ 24) && okBytes s [46, 45, 44, 95]
def okStored (v : List UInt8) (g : Bool) : Bool := okVal v && !(g && !(v == []))
def verAt (pre : List VerT) (v : VerT) : Bool := okTime v.Time && okStored v.Val v.Gone && prevB (fun a b => decide (a.Time < b.Time)) pre v
def okVers (vs : List VerT) : Bool := allPre verAt [] vs && inB 1 vs.length 16
theorem c_impl_isTime (n : Int) : PC Tryz.prog false 142 [.int .i64 n] (.bool (okTime n)) [] := by
  refine pc_at Tryz.func142 rfl (by kernel_rfl) 5 [.tmp 2] rfl rfl ?_
  repeat' (conv => whnf); first
 | (refine nameB_cases (fun h => ?_) (fun h => ?_) <;> try simp only [nmL, lensB] at h)
 | refine Call0 (c_impl_within ..) rfl rfl ?_
 | fail
  all_goals
    conv => whnf
    refine OutA_plain rfl rfl ?_
    first
    | rfl
    | (simp only [okTime, *, named, AV.sub, AV.sub.subL, Bool.and_true, Bool.and_false, Bool.true_and, Bool.false_and, Bool.or_true, Bool.or_false, Bool.true_or, Bool.false_or, Bool.not_true, Bool.not_false, if_true, if_false, decide_true, decide_false, Bool.false_eq_true, Bool.and_self]; done)
    | (simp_all [okTime, named, AV.sub, AV.sub.subL]; done)
    | (simp_all [okTime, named, AV.sub, AV.sub.subL] <;> (intros; omega))
    | (exfalso; omega)
theorem c_spec_l3Time (n : Int) : PC Tryz.prog false 135 [.int .i64 n] (.bool (okTime n)) [] := by
  refine pc_at Tryz.func135 rfl (by kernel_rfl) 5 [.tmp 2] rfl rfl ?_
  repeat' (conv => whnf); first
 | (refine nameB_cases (fun h => ?_) (fun h => ?_) <;> try simp only [nmL, lensB] at h)
 | refine Call0 (c_spec_l1In ..) rfl rfl ?_
 | fail
  all_goals
    conv => whnf
    refine OutA_plain rfl rfl ?_
    first
    | rfl
    | (simp only [okTime, *, named, AV.sub, AV.sub.subL, Bool.and_true, Bool.and_false, Bool.true_and, Bool.false_and, Bool.or_true, Bool.or_false, Bool.true_or, Bool.false_or, Bool.not_true, Bool.not_false, if_true, if_false, decide_true, decide_false, Bool.false_eq_true, Bool.and_self]; done)
    | (simp_all [okTime, named, AV.sub, AV.sub.subL]; done)
    | (simp_all [okTime, named, AV.sub, AV.sub.subL] <;> (intros; omega))
    | (exfalso; omega)
theorem c_impl_GoodVal (s : List UInt8) (hs : s.length ≤ 9223372036854775807) : PC Tryz.prog false 130 [.str s] (.bool (okVal s)) [] := by
  refine pc_at Tryz.func130 rfl (by kernel_rfl) 10 [.tmp 2] rfl rfl ?_
  repeat' (conv => whnf); first
 | (refine nameB_dec (fun h => ?_) (fun h => ?_) <;> try simp only [lensB] at h)
 | (refine nameB_cases (fun h => ?_) (fun h => ?_) <;> try simp only [nmL, lensB] at h)
 | refine splitB_true ?_
 | refine splitB_false ?_
 | refine Call0 (c_impl_hasBytes s _ hs) rfl rfl ?_
 | fail
  all_goals
    conv => whnf
    refine OutA_plain rfl rfl ?_
    first
    | rfl
    | (simp only [okVal, *, named, AV.sub, AV.sub.subL, Bool.and_true, Bool.and_false, Bool.true_and, Bool.false_and, Bool.or_true, Bool.or_false, Bool.true_or, Bool.false_or, Bool.not_true, Bool.not_false, if_true, if_false, decide_true, decide_false, Bool.false_eq_true, Bool.and_self]; done)
    | (simp_all [okVal, named, AV.sub, AV.sub.subL]; done)
    | (simp_all [okVal, named, AV.sub, AV.sub.subL] <;> (intros; omega))
    | (exfalso; omega)
theorem c_spec_l3Val (s : List UInt8) (hs : s.length ≤ 9223372036854775807) : PC Tryz.prog false 71 [.str s] (.bool (okVal s)) [] := by
  refine pc_at Tryz.func71 rfl (by kernel_rfl) 10 [.tmp 2] rfl rfl ?_
  repeat' (conv => whnf); first
 | (refine nameB_dec (fun h => ?_) (fun h => ?_) <;> try simp only [lensB] at h)
 | (refine nameB_cases (fun h => ?_) (fun h => ?_) <;> try simp only [nmL, lensB] at h)
 | refine splitB_true ?_
 | refine splitB_false ?_
 | refine Call0 (c_spec_l3Bytes s _ hs (by simp)) rfl rfl ?_
 | fail
  all_goals
    conv => whnf
    refine OutA_plain rfl rfl ?_
    first
    | rfl
    | (simp only [okVal, *, named, AV.sub, AV.sub.subL, Bool.and_true, Bool.and_false, Bool.true_and, Bool.false_and, Bool.or_true, Bool.or_false, Bool.true_or, Bool.false_or, Bool.not_true, Bool.not_false, if_true, if_false, decide_true, decide_false, Bool.false_eq_true, Bool.and_self]; done)
    | (simp_all [okVal, named, AV.sub, AV.sub.subL]; done)
    | (simp_all [okVal, named, AV.sub, AV.sub.subL] <;> (intros; omega))
    | (exfalso; omega)
theorem c_impl_isStored (v : List UInt8) (g : Bool) (hv : okS v) : PC Tryz.prog false 91 [.str v, .bool g] (.bool (okStored v g)) [] := by
  refine pc_at Tryz.func91 rfl (by kernel_rfl) 15 [.tmp 4] rfl rfl ?_
  repeat' (conv => whnf); first
 | refine nameB_true ?_
 | refine nameB_false ?_
 | (refine nameB_cases (fun h => ?_) (fun h => ?_) <;> try simp only [nmL, lensB] at h)
 | refine splitB_true ?_
 | refine splitB_false ?_
 | (refine splitB_intro (fun h => ?_) (fun h => ?_) <;> subst h)
 | refine Call0 (c_impl_GoodVal v hv) rfl rfl ?_
 | fail
  all_goals
    conv => whnf
    refine OutA_plain rfl rfl ?_
    first
    | rfl
    | (simp only [okStored, *, named, AV.sub, AV.sub.subL, Bool.and_true, Bool.and_false, Bool.true_and, Bool.false_and, Bool.or_true, Bool.or_false, Bool.true_or, Bool.false_or, Bool.not_true, Bool.not_false, if_true, if_false, decide_true, decide_false, Bool.false_eq_true, Bool.and_self]; done)
    | (simp_all [okStored, named, AV.sub, AV.sub.subL]; done)
    | (simp_all [okStored, named, AV.sub, AV.sub.subL] <;> (intros; omega))
    | (exfalso; omega)
def okWr (k v : List UInt8) (g : Bool) : Bool := okKey k && okStored v g
theorem c_spec_l3Write (k v : List UInt8) (g : Bool) (hk : okS k) (hv : okS v) : PC Tryz.prog false 42 [.str k, .str v, .bool g] (.bool (okWr k v g)) [] := by
  refine pc_at Tryz.func42 rfl (by kernel_rfl) 21 [.tmp 6] rfl rfl ?_
  repeat' (conv => whnf); first
 | (refine nameB_cases (fun h => ?_) (fun h => ?_) <;> try simp only [nmL, lensB] at h)
 | refine splitB_true ?_
 | refine splitB_false ?_
 | refine Call0 (c_spec_l3Key k hk) rfl rfl ?_
 | refine Call0 (c_spec_l3Val v hv) rfl rfl ?_
 | fail
  all_goals
    conv => whnf
    refine OutA_plain rfl rfl ?_
    first
    | rfl
    | (simp only [okWr, okStored, *, named, AV.sub, AV.sub.subL, Bool.and_true, Bool.and_false, Bool.true_and, Bool.false_and, Bool.or_true, Bool.or_false, Bool.true_or, Bool.false_or, Bool.not_true, Bool.not_false, if_true, if_false, decide_true, decide_false, Bool.false_eq_true, Bool.and_self]; done)
    | (simp_all [okWr, okStored, named, AV.sub, AV.sub.subL]; done)
    | (simp_all [okWr, okStored, named, AV.sub, AV.sub.subL] <;> (intros; omega))
    | (exfalso; omega)
theorem verAt_yes {vs : List VerT} {k : Nat} {v : VerT} (h1 : okTime v.Time = true) (h2 : okStored v.Val v.Gone = true) (h3 : prevB (fun a b : VerT => decide (a.Time < b.Time)) (vs.take k) v = true) : verAt (vs.take k) v = true := by simp only [verAt, h1, h2, h3, Bool.and_true]
theorem verAt_no {pre : List VerT} {v : VerT} (h : okTime v.Time = false ∨ okStored v.Val v.Gone = false ∨ prevB (fun a b : VerT => decide (a.Time < b.Time)) pre v = false) : verAt pre v = false := by
  rcases h with h | h | h <;> simp [verAt, h]
theorem c_impl_isCell (x : CellT) (hok : x.ok) : PC Tryz.prog false 111 [.agg x.cells] (.bool (okVers x.Vers)) [] := by
  have hl := hok.2.1
  refine pc_at Tryz.func111 rfl (by kernel_rfl) 46 [.tmp 2] rfl rfl ?_
  repeat' (conv => whnf); first
 | refine ix_as (m := k - 1) (by simp only [i64_wrap_eq]; omega) (by omega) (fun y hy => ?_)
 | refine ix_map (by omega) (by omega) (fun v hx => ?_)
 | refine nameB_self (b := v.Gone) ?_
 | refine nameB_true ?_
 | refine nameB_false ?_
 | (refine nameB_dec (fun h => ?_) (fun h => ?_) <;> try simp only [lensB] at h)
 | (refine nameB_cases (fun h => ?_) (fun h => ?_) <;> try simp only [nmL, lensB] at h)
 | refine splitB_true ?_
 | refine splitB_false ?_
 | refine draw_text (by kernel_rfl) (by kernel_rfl) (by kernel_rfl) ?_
 | ((refine Loop_at [1, 6, 7] [0] (Nat) (fun k => allPre verAt (x.Vers.take k) (x.Vers.drop k) = allPre verAt [] x.Vers ∧ k ≤ x.Vers.length) (fun k => [(8, .int .i64 (k : Nat))]) (fun k => []) (fun k => x.Vers.length - k) 0 ⟨by first | (simp_all <;> fail) | rfl | fail, trivial⟩ trivial (by (try dsimp only); first | (exact ⟨rfl, by omega⟩) | fail) ?_; (conv => whnf); refine side_and (side_of (by first | exact fun k => rfl | exact fun k => by simp [headOk, closedE, closedO, closedL, AV.closed, hcap.closed, hasId, AObj.box, BK.ofB])) ?_; rintro k hT; try dsimp only at hT))
 | (refine Again_of (k + 1) ⟨by first | rfl | exact i64_next (by omega) | (simp_all <;> fail) | fail, trivial⟩ trivial (by first | (and_intros <;> first | rfl | trivial) | fail) (by first | (and_intros <;> first | rfl | trivial) | fail) rfl rfl rfl (by (try dsimp only); first | (first | exact ⟨allPre_go hT.1 hx (verAt_yes (by assumption) (by assumption) (prevB_zero (by assumption))), by omega⟩ | exact ⟨allPre_go hT.1 hx (verAt_yes (by assumption) (by assumption) ((prevB_pos (by assumption) hy).trans (decide_eq_true (by omega)))), by omega⟩) | fail) (show _ < _ by (try dsimp only); omega))
 | refine Call0 (c_impl_within ..) rfl rfl ?_
 | refine CallD0 (c_impl_isTime ..) rfl rfl rfl ?_
 | refine CallD0 (c_impl_isStored v.Val v.Gone (hok.2.2 v (List.mem_of_getElem? hx)).2.1) rfl rfl rfl ?_
 | refine side_and (side_of (by first | (and_intros <;> first | exact Nat.le_of_ble_eq_true rfl | rfl | omega | (simp only [lensB, lensC]; omega) | exact bytes_ok (Nat.le_of_ble_eq_true rfl) (by omega) (by simp only [lensB, lensC]; omega) | exact bytes_okN (Nat.le_of_ble_eq_true rfl) (by simp only [lensB, lensC]; omega)) | fail)) ?_
 | refine LoadK_of rfl rfl ?_
 | fail
  all_goals
    conv => whnf
    refine OutA_plain rfl rfl ?_
    first
    | (have hb := allPre_bad hT.1 hx (verAt_no (.inl (by assumption))); simp only [okVers, hb, Bool.false_and]; rfl)
    | (have hb := allPre_bad hT.1 hx (verAt_no (.inr (.inl (by assumption)))); simp only [okVers, hb, Bool.false_and]; rfl)
    | (have hb := allPre_bad hT.1 hx (verAt_no (.inr (.inr ((prevB_pos (by assumption) hy).trans (decide_eq_false (by omega)))))); simp only [okVers, hb, Bool.false_and]; rfl)
    | (have hb := allPre_end hT.1 (by assumption); simp only [okVers, hb, Bool.true_and, *]; rfl)
def cellAt (pre : List CellT) (c : CellT) : Bool := (okVers c.Vers && okKey c.Key) && prevB (fun a b => Op.bytesLess a.Key b.Key) pre c
def okCells (cs : List CellT) : Bool := allPre cellAt [] cs && decide ((cs.length : Int) ≤ 24)
theorem wverAt_no {pre : List VerT} {k : List UInt8} {v : VerT} (h : okTime v.Time = false ∨ okWr k v.Val v.Gone = false ∨ prevB (fun a b : VerT => decide (a.Time < b.Time)) pre v = false) : okKey k = false ∨ verAt pre v = false := by
  rcases h with h | h | h
  · right; simp [verAt, h]
  · simp only [okWr, Bool.and_eq_false_iff] at h
    rcases h with h | h
    · exact .inl h
    · right; simp [verAt, h]
  · right; simp [verAt, h]
theorem okWr_st {k v : List UInt8} {g : Bool} (h : okWr k v g = true) : okStored v g = true := by simp only [okWr, Bool.and_eq_true] at h; exact h.2
theorem c_spec_l3Cell (x : CellT) (hok : x.ok) : PC Tryz.prog false 99 [.agg x.cells] (.bool (okVers x.Vers && okKey x.Key)) [] := by
  have hl := hok.2.1
  refine pc_at Tryz.func99 rfl (by kernel_rfl) 53 [.tmp 2] rfl rfl ?_
  repeat' (conv => whnf); first
 | refine ix_as (m := k - 1) (by simp only [i64_wrap_eq]; omega) (by omega) (fun y hy => ?_)
 | refine ix_map (by omega) (by omega) (fun v hx => ?_)
 | refine nameB_self (b := v.Gone) ?_
 | refine nameB_true ?_
 | refine nameB_false ?_
 | (refine nameB_dec (fun h => ?_) (fun h => ?_) <;> try simp only [lensB] at h)
 | (refine nameB_cases (fun h => ?_) (fun h => ?_) <;> try simp only [nmL, lensB] at h)
 | refine splitB_true ?_
 | refine splitB_false ?_
 | refine draw_text (by kernel_rfl) (by kernel_rfl) (by kernel_rfl) ?_
 | ((refine Loop_at [1, 6, 7] [0] (Nat) (fun k => allPre verAt (x.Vers.take k) (x.Vers.drop k) = allPre verAt [] x.Vers ∧ k ≤ x.Vers.length) (fun k => [(8, .int .i64 (k : Nat))]) (fun k => []) (fun k => x.Vers.length - k) 0 ⟨by first | (simp_all <;> fail) | rfl | fail, trivial⟩ trivial (by (try dsimp only); first | (exact ⟨rfl, by omega⟩) | fail) ?_; (conv => whnf); refine side_and (side_of (by first | exact fun k => rfl | exact fun k => by simp [headOk, closedE, closedO, closedL, AV.closed, hcap.closed, hasId, AObj.box, BK.ofB])) ?_; rintro k hT; try dsimp only at hT))
 | (refine Again_of (k + 1) ⟨by first | rfl | exact i64_next (by omega) | (simp_all <;> fail) | fail, trivial⟩ trivial (by first | (and_intros <;> first | rfl | trivial) | fail) (by first | (and_intros <;> first | rfl | trivial) | fail) rfl rfl rfl (by (try dsimp only); first | (first | exact ⟨allPre_go hT.1 hx (verAt_yes (by assumption) (okWr_st (by assumption)) (prevB_zero (by assumption))), by omega⟩ | exact ⟨allPre_go hT.1 hx (verAt_yes (by assumption) (okWr_st (by assumption)) ((prevB_pos (by assumption) hy).trans (decide_eq_true (by omega)))), by omega⟩) | fail) (show _ < _ by (try dsimp only); omega))
 | refine Call0 (c_spec_l1In ..) rfl rfl ?_
 | refine Call0 (c_spec_l3Key x.Key hok.1) rfl rfl ?_
 | refine CallD0 (c_spec_l3Time ..) rfl rfl rfl ?_
 | refine CallD0 (c_spec_l3Write x.Key v.Val v.Gone hok.1 (hok.2.2 v (List.mem_of_getElem? hx)).2.1) rfl rfl rfl ?_
 | refine side_and (side_of (by first | (and_intros <;> first | exact Nat.le_of_ble_eq_true rfl | rfl | omega | (simp only [lensB, lensC]; omega) | exact bytes_ok (Nat.le_of_ble_eq_true rfl) (by omega) (by simp only [lensB, lensC]; omega) | exact bytes_okN (Nat.le_of_ble_eq_true rfl) (by simp only [lensB, lensC]; omega)) | fail)) ?_
 | refine LoadK_of rfl rfl ?_
 | fail
  all_goals
    conv => whnf
    refine OutA_plain rfl rfl ?_
    first
    | (have hq0 := wverAt_no (pre := x.Vers.take k) (k := x.Key) (v := v) (.inl (by assumption)); rcases hq0 with hq | hq; (simp only [hq, Bool.and_false]; rfl); have hb := allPre_bad hT.1 hx hq; simp only [okVers, hb, Bool.false_and]; rfl)
    | (have hq0 := wverAt_no (pre := x.Vers.take k) (k := x.Key) (v := v) (.inr (.inl (by assumption))); rcases hq0 with hq | hq; (simp only [hq, Bool.and_false]; rfl); have hb := allPre_bad hT.1 hx hq; simp only [okVers, hb, Bool.false_and]; rfl)
    | (have hq0 := wverAt_no (pre := x.Vers.take k) (k := x.Key) (v := v) (.inr (.inr ((prevB_pos (by assumption) hy).trans (decide_eq_false (by omega))))); rcases hq0 with hq | hq; (simp only [hq, Bool.and_false]; rfl); have hb := allPre_bad hT.1 hx hq; simp only [okVers, hb, Bool.false_and]; rfl)
    | (have hb := allPre_end hT.1 (by assumption); simp only [okVers, hb, Bool.true_and, Bool.and_true, Bool.and_false, *]; rfl)
theorem cellAt_yes {cs : List CellT} {k : Nat} {c : CellT} (h1 : (okVers c.Vers && okKey c.Key) = true) (h3 : prevB (fun a b : CellT => Op.bytesLess a.Key b.Key) (cs.take k) c = true) : cellAt (cs.take k) c = true := by simp only [cellAt, h1, h3, Bool.and_true]
theorem cellAt_no {pre : List CellT} {c : CellT} (h : (okVers c.Vers && okKey c.Key) = false ∨ prevB (fun a b : CellT => Op.bytesLess a.Key b.Key) pre c = false) : cellAt pre c = false := by
  rcases h with h | h <;> simp only [cellAt, h, Bool.false_and, Bool.and_false]
theorem c_spec_l3Good (cs : List CellT) (hok : okL CellT.ok cs) : PC Tryz.prog false 65 [.sl (cs.map CellT.cells)] (.bool (okCells cs)) [] := by
  have hl := hok.1
  refine pc_at Tryz.func65 rfl (by kernel_rfl) 34 [.tmp 2] rfl rfl ?_
  repeat' (conv => whnf); first
 | refine ix_as (m := k - 1) (by simp only [i64_wrap_eq]; omega) (by omega) (fun y hy => ?_)
 | (refine nameB_cases (b := okVers x.Vers && okKey x.Key) (fun h => ?_) (fun h => ?_))
 | refine nameB_true ?_
 | refine nameB_false ?_
 | (refine nameB_dec (fun h => ?_) (fun h => ?_) <;> try simp only [lensB] at h)
 | (refine nameB_cases (fun h => ?_) (fun h => ?_) <;> try simp only [nmL, lensB] at h)
 | refine splitB_true ?_
 | refine splitB_false ?_
 | refine draw_text (by kernel_rfl) (by kernel_rfl) (by kernel_rfl) ?_
 | ((refine Loop_at [0, 5, 6] [] (Nat) (fun k => allPre cellAt (cs.take k) (cs.drop k) = allPre cellAt [] cs ∧ k ≤ cs.length) (fun k => [(7, .int .i64 (k : Nat))]) (fun k => []) (fun k => cs.length - k) 0 ⟨by first | (simp_all <;> fail) | rfl | fail, trivial⟩ trivial (by (try dsimp only); first | (exact ⟨rfl, by omega⟩) | fail) ?_; (conv => whnf); refine side_and (side_of (by first | exact fun k => rfl | exact fun k => by simp [headOk, closedE, closedO, closedL, AV.closed, hcap.closed, hasId, AObj.box, BK.ofB])) ?_; rintro k hT; try dsimp only at hT))
 | (refine Again_of (k + 1) ⟨by first | rfl | exact i64_next (by omega) | (simp_all <;> fail) | fail, trivial⟩ trivial (by first | (and_intros <;> first | rfl | trivial) | fail) (by first | (and_intros <;> first | rfl | trivial) | fail) rfl rfl rfl (by (try dsimp only); first | (first | exact ⟨allPre_go hT.1 hx (cellAt_yes (by assumption) (prevB_zero (by assumption))), by omega⟩ | exact ⟨allPre_go hT.1 hx (cellAt_yes (by assumption) ((prevB_pos (by assumption) hy).trans (by assumption))), by omega⟩) | fail) (show _ < _ by (try dsimp only); omega))
 | refine CallD0 (c_spec_l3Cell x (hok.2 x (List.mem_of_getElem? hx))) rfl rfl rfl ?_
 | (refine ix_map (by omega) (by (try simp only [List.length_take]); omega) (fun x hx => ?_); try simp only [Int.toNat_natCast] at hx)
 | refine side_and (side_of (by first | (and_intros <;> first | exact Nat.le_of_ble_eq_true rfl | rfl | omega | (simp only [lensB, lensC]; omega) | exact bytes_ok (Nat.le_of_ble_eq_true rfl) (by omega) (by simp only [lensB, lensC]; omega) | exact bytes_okN (Nat.le_of_ble_eq_true rfl) (by simp only [lensB, lensC]; omega)) | fail)) ?_
 | refine LoadK_of rfl rfl ?_
 | fail
  all_goals
    conv => whnf
    refine OutA_plain rfl rfl ?_
    first
    | (have hb := allPre_bad hT.1 hx (cellAt_no (.inl (by assumption))); simp only [okCells, hb, Bool.false_and]; rfl)
    | (have hb := allPre_bad hT.1 hx (cellAt_no (.inr ((prevB_pos (by assumption) hy).trans (by assumption)))); simp only [okCells, hb, Bool.false_and]; rfl)
    | (have hb := allPre_end hT.1 (by assumption); simp_all [okCells, named, AV.sub]; done)
theorem rising_allPre {α : Type} (key : α → List UInt8) (p : α → Bool) : ∀ (xs pre : List α), (rising (pre.getLast?.map key) (xs.map key) && xs.all p) = allPre (fun pre x => (p x && okKey (key x)) && prevB (fun a b => Op.bytesLess (key a) (key b)) pre x) pre xs
  | [], pre => rfl
  | x :: xs, pre => by
    have ih := rising_allPre key p xs (pre ++ [x])
    simp only [List.getLast?_concat, Option.map_some] at ih
    have hp : prevB (fun a b => Op.bytesLess (key a) (key b)) pre x = (match pre.getLast?.map key with | none => true | some q => Op.bytesLess q (key x)) := by
      unfold prevB
      cases pre.getLast? <;> rfl
    simp only [List.map_cons, rising, allPre, List.all_cons]
    rw [← ih, hp]
    cases okKey (key x) <;> cases p x <;> cases hg : pre.getLast? <;> simp [Bool.and_comm, Bool.and_left_comm]
theorem okCells_rising (cs : List CellT) : okCells cs = (decide ((cs.length : Int) ≤ 24) && (rising none (cs.map CellT.Key) && cs.all fun c => okVers c.Vers)) := by
  have := rising_allPre CellT.Key (fun c => okVers c.Vers) cs []
  unfold okCells
  rw [Bool.and_comm]
  exact congrArg _ this.symm
theorem app_snoc {α : Type} {f : α → List AV} {xs : List α} {k : Nat} {x : α} {L : List (List AV)} (hx : xs[k]? = some x) (hL : L = [f x]) : (xs.take k).map f ++ L = (xs.take (k + 1)).map f := by
  rw [hL, take_get hx, List.map_append]; rfl
theorem keysCells {cs : List CellT} : cs.map (fun c => strC c.Key) = (cs.map CellT.Key).map strC := by rw [List.map_map]; rfl
theorem full_take {α : Type} {f : α → List AV} {xs : List α} {k : Nat} (h : ¬ (k : Int) < xs.length) : (xs.take k).map f = xs.map f := by rw [List.take_of_length_le (by omega)]
theorem okS_keys {cs : List CellT} (h : okL CellT.ok cs) : okL okS (cs.map CellT.Key) := ⟨by rw [List.length_map]; exact h.1, fun k hk => by obtain ⟨c, hc, rfl⟩ := List.mem_map.1 hk; exact (h.2 c hc).1⟩
theorem c_impl_GoodCells (cs : List CellT) (hok : okL CellT.ok cs) (hw : cs.length ≤ 1048576) : PC Tryz.prog false 78 [.sl (cs.map CellT.cells)] (.bool (okCells cs)) [] := by
  have hl := hok.1
  rw [okCells_rising]
  refine pc_at Tryz.func78 rfl (by kernel_rfl) 29 [.tmp 2] rfl rfl ?_
  repeat' (conv => whnf); first
 | refine side_and (side_of (one_lenC rfl rfl)) ?_
 | refine side_and (side_of (by first | (and_intros <;> first | exact Nat.le_of_ble_eq_true rfl | rfl | (intro e; exact absurd (AV.own.inj e) (by decide)) | (intro e; exact AV.noConfusion e)) | fail)) ?_
 | refine side_and (side_of (app_boundC (L := (cs.take k).map fun c => strC c.Key) rfl (by (try simp only [List.length_map, List.length_append, List.length_take, List.length_set, List.length_drop]); omega) (Nat.le_of_ble_eq_true rfl))) ?_
 | refine nameB_true ?_
 | refine nameB_false ?_
 | (refine nameB_dec (fun h => ?_) (fun h => ?_) <;> try simp only [lensB] at h)
 | (refine nameB_cases (fun h => ?_) (fun h => ?_) <;> try simp only [nmL, lensB] at h)
 | refine splitB_true ?_
 | refine splitB_false ?_
 | ((refine Loop_nil 3 4096 9 1 rfl rfl (by decide) ?_; refine Loop_at [0, 7, 8] [] (Nat) (fun k => ((cs.drop k).all fun c => okVers c.Vers) = (cs.all fun c => okVers c.Vers) ∧ k ≤ cs.length) (fun k => [(9, .int .i64 (k : Nat)), (3, .own 4096)]) (fun k => [(4096, ⟨false, 9, 1, (cs.take k).map fun c => strC c.Key⟩)]) (fun k => cs.length - k) 0 ⟨by first | (simp_all <;> fail) | rfl | fail, by first | rfl | (simp_all <;> fail) | fail, trivial⟩ ⟨by first | rfl | exact congrArg (fun e => some (AObj.mk false _ _ e)) (app_snoc hx rfl) | fail | fail, trivial⟩ (by (try dsimp only); first | (exact ⟨rfl, by omega⟩) | fail) ?_; (conv => whnf); refine side_and (side_of (by first | exact fun k => rfl | exact fun k => by simp [headOk, closedE, closedO, closedL, AV.closed, hcap.closed, hasId, AObj.box, BK.ofB])) ?_; rintro k hT; try dsimp only at hT))
 | (refine Again_of (k + 1) ⟨by first | rfl | exact i64_next (by omega) | (simp_all <;> fail) | fail, by first | rfl | (simp_all <;> fail) | fail, trivial⟩ ⟨by first | rfl | exact congrArg (fun e => some (AObj.mk false _ _ e)) (app_snoc hx rfl) | fail | fail, trivial⟩ (by first | (and_intros <;> first | rfl | trivial) | fail) (by first | (and_intros <;> first | rfl | trivial) | fail) rfl rfl rfl (by (try dsimp only); first | (exact ⟨all_go hT.1 hx (by assumption), by omega⟩) | fail) (show _ < _ by (try dsimp only); omega))
 | refine Call0 (c_impl_isCell x (hok.2 x (List.mem_of_getElem? hx))) rfl rfl ?_
 | refine Call0 (c_impl_areRising (cs.map CellT.Key) (okS_keys hok)) (congrArg (fun l => [AV.sl l]) ((full_take (f := fun c : CellT => strC c.Key) (by assumption)).trans keysCells)) rfl ?_
 | (refine ix_map (by omega) (by (try simp only [List.length_take]); omega) (fun x hx => ?_); try simp only [Int.toNat_natCast] at hx)
 | fail
  all_goals
    conv => whnf
    refine OutA_plain rfl rfl ?_
    first
    | (have hb := all_bad hT.1 hx (by assumption); simp only [hb, Bool.and_false]; rfl)
    | (have hb := all_end hT.1 (by assumption); simp_all [named, AV.sub]; done)
    | (have hb := all_end hT.1 (by assumption); simp_all [named, AV.sub] <;> (intros; omega))
end Go.Proofs.YthbheejeloomjaaGreat
