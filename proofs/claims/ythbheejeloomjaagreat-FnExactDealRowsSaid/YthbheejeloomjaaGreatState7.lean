/-
  What the reference's functions on held transactions give.
  No condition.
-/
import Derived.Test.YthbheejeloomjaaGreatState3
import Derived.Test.YthbheejeloomjaaGreatM4
namespace Go.Proofs.YthbheejeloomjaaGreat
open Go.Ab
set_option linter.unusedSimpArgs false
set_option maxRecDepth 20000
set_option maxHeartbeats 4000000
set_option linter.unusedVariables false

theorem c_spec_l4Good (r : RecT) (hok : r.ok) (hw : r.Writes.length ≤ 1048576) (hr : r.Reads.length ≤ 1048576) : PC Tryz.prog false 100 [.agg r.cells] (.bool (okRec r)) [] := by
  have hs : IntKind.i64.wrap ((r.Reads.length : Int) + (r.Writes.length : Int)) = (r.Reads.length : Int) + (r.Writes.length : Int) := i64_wrap (by omega) (by omega)
  refine pc_at Tryz.func100 rfl (by kernel_rfl) 112 [.tmp 2] rfl rfl ?_
  repeat' (conv => whnf); first
 | (refine nameB_cases (b := r.Yes) (fun h => ?_) (fun h => ?_))
 | refine nameB_true ?_
 | refine nameB_false ?_
 | refine nameB_dyes (by assumption) ?_
 | refine nameB_dno (by assumption) ?_
 | (refine nameB_dec (fun h => ?_) (fun h => ?_) <;> try simp only [lensB] at h)
 | (refine nameB_cases (fun h => ?_) (fun h => ?_) <;> try simp only [nmL, lensB] at h)
 | refine splitB_true ?_
 | refine splitB_false ?_
 | refine Call0 (c_spec_l1In ..) rfl rfl ?_
 | refine Call0 (c_spec_l3Time ..) rfl rfl ?_
 | refine Call0 (c_spec_l4Keys r.Reads hok.2.2.2.2.1) rfl rfl ?_
 | refine Call0 (c_spec_l3Writes r.Writes hok.2.2.2.2.2.1) rfl rfl ?_
 | refine side_and (side_of (by first | (and_intros <;> first | exact Nat.le_of_ble_eq_true rfl | rfl | omega | (simp only [lensB, lensC]; omega) | exact bytes_ok (Nat.le_of_ble_eq_true rfl) (by omega) (by simp only [lensB, lensC]; omega) | exact bytes_okN (Nat.le_of_ble_eq_true rfl) (by simp only [lensB, lensC]; omega)) | fail)) ?_
 | fail
  all_goals
    conv => whnf
    refine OutA_plain rfl rfl ?_
    first
    | rfl
    | (simp_all [okRec, inB, named, AV.sub, AV.sub.subL]; done)
    | (simp_all [okRec, inB, named, AV.sub, AV.sub.subL] <;> (intros; first | omega | fail))
    | (have q : (rising none r.Reads && decide ((r.Reads.length : Int) ≤ 8)) = false := (by assumption); rw [Bool.and_eq_false_iff] at q; rcases q with q | q <;> (unfold okRec; rw [if_pos (by assumption)]; simp only [q, Bool.and_false, Bool.false_and]; rfl))
    | (have q : IntKind.i64.wrap ((r.Reads.length : Int) + (r.Writes.length : Int)) > 0 := (by assumption); have hz4 : 0 < (r.Reads.length : Int) + (r.Writes.length : Int) := hs ▸ q; clear hs q; by_cases hz5 : (r.Reads.length : Int) = 0 <;> by_cases hz6 : (r.Writes.length : Int) = 0 <;> first | (exfalso; omega) | (simp_all [okRec, inB, named, AV.sub]; done) | (simp_all [okRec, inB, named, AV.sub] <;> (intros; omega)))
    | (have q : ¬ (IntKind.i64.wrap ((r.Reads.length : Int) + (r.Writes.length : Int)) > 0) := (by assumption); have hz0 : (r.Reads.length : Int) + (r.Writes.length : Int) ≤ 0 := hs ▸ Int.not_lt.1 q; clear hs q; have hz1 : (r.Reads.length : Int) = 0 := (by omega); have hz2 : (r.Writes.length : Int) = 0 := (by omega); simp_all [okRec, named, AV.sub]; done)
def wrote (ws : List WriteT) (key : List UInt8) : Bool := ws.any fun w => w.Key == key
theorem c_spec_l13Wrote (ws : List WriteT) (key : List UInt8) (hl : ws.length ≤ 9223372036854775807) : PC Tryz.prog false 137 [.sl (ws.map WriteT.cells), .str key] (.bool (wrote ws key)) [] := by
  refine pc_at Tryz.func137 rfl (by kernel_rfl) 18 [.tmp 4] rfl rfl ?_
  repeat' (conv => whnf); first
 | (refine nameB_dec (fun h => ?_) (fun h => ?_) <;> try simp only [lensB] at h)
 | (refine nameB_cases (fun h => ?_) (fun h => ?_) <;> try simp only [nmL, lensB] at h)
 | refine splitB_true ?_
 | refine splitB_false ?_
 | ((refine Loop_at [1, 7, 8] [] (Nat) (fun k => ((ws.drop k).any fun w => w.Key == key) = (ws.any fun w => w.Key == key) ∧ k ≤ ws.length) (fun k => [(9, .int .i64 (k : Nat))]) (fun k => []) (fun k => ws.length - k) 0 ⟨by first | (simp_all <;> fail) | rfl | fail, trivial⟩ trivial (by (try dsimp only); first | (exact ⟨rfl, by omega⟩) | fail) ?_; (conv => whnf); refine side_and (side_of (by first | exact fun k => rfl | exact fun k => by simp [headOk, closedE, closedO, closedL, AV.closed, hcap.closed, hasId, AObj.box, BK.ofB])) ?_; rintro k hT; try dsimp only at hT))
 | (refine Again_of (k + 1) ⟨by first | rfl | exact i64_next (by omega) | (simp_all <;> fail) | fail, trivial⟩ trivial (by first | (and_intros <;> first | rfl | trivial) | fail) (by first | (and_intros <;> first | rfl | trivial) | fail) rfl rfl rfl (by (try dsimp only); first | (exact ⟨any_go hT.1 hx (by simpa using (by assumption : ¬ x.Key = key)), by omega⟩) | fail) (show _ < _ by (try dsimp only); omega))
 | (refine ix_map (by omega) (by (try simp only [List.length_take]); omega) (fun x hx => ?_); try simp only [Int.toNat_natCast] at hx)
 | refine side_and (side_of (by first | (and_intros <;> first | exact Nat.le_of_ble_eq_true rfl | rfl | omega | (simp only [lensB, lensC]; omega) | exact bytes_ok (Nat.le_of_ble_eq_true rfl) (by omega) (by simp only [lensB, lensC]; omega) | exact bytes_okN (Nat.le_of_ble_eq_true rfl) (by simp only [lensB, lensC]; omega)) | fail)) ?_
 | fail
  all_goals
    conv => whnf
    refine OutA_plain rfl rfl ?_
    first
    | (have hb := any_hit hT.1 hx (by simpa using (by assumption : x.Key = key)); simp only [wrote, hb]; rfl)
    | (have hb := any_end hT.1 (by assumption); simp only [wrote, hb]; rfl)
theorem c_spec_l1HasS (xs : List (List UInt8)) (key : List UInt8) (hl : xs.length ≤ 9223372036854775807) : PC Tryz.prog false 138 [.sl (xs.map strC), .str key] (.bool (xs.any fun w => w == key)) [] := by
  refine pc_at Tryz.func138 rfl (by kernel_rfl) 17 [.tmp 4] rfl rfl ?_
  repeat' (conv => whnf); first
 | (refine nameB_dec (fun h => ?_) (fun h => ?_) <;> try simp only [lensB] at h)
 | (refine nameB_cases (fun h => ?_) (fun h => ?_) <;> try simp only [nmL, lensB] at h)
 | refine splitB_true ?_
 | refine splitB_false ?_
 | ((refine Loop_at [1, 7, 8] [] (Nat) (fun k => ((xs.drop k).any fun w => w == key) = (xs.any fun w => w == key) ∧ k ≤ xs.length) (fun k => [(9, .int .i64 (k : Nat))]) (fun k => []) (fun k => xs.length - k) 0 ⟨by first | (simp_all <;> fail) | rfl | fail, trivial⟩ trivial (by (try dsimp only); first | (exact ⟨rfl, by omega⟩) | fail) ?_; (conv => whnf); refine side_and (side_of (by first | exact fun k => rfl | exact fun k => by simp [headOk, closedE, closedO, closedL, AV.closed, hcap.closed, hasId, AObj.box, BK.ofB])) ?_; rintro k hT; try dsimp only at hT))
 | (refine Again_of (k + 1) ⟨by first | rfl | exact i64_next (by omega) | (simp_all <;> fail) | fail, trivial⟩ trivial (by first | (and_intros <;> first | rfl | trivial) | fail) (by first | (and_intros <;> first | rfl | trivial) | fail) rfl rfl rfl (by (try dsimp only); first | (exact ⟨any_go hT.1 hx (by simpa using (by assumption : ¬ x = key)), by omega⟩) | fail) (show _ < _ by (try dsimp only); omega))
 | (refine ix_map (by omega) (by (try simp only [List.length_take]); omega) (fun x hx => ?_); try simp only [Int.toNat_natCast] at hx)
 | refine side_and (side_of (by first | (and_intros <;> first | exact Nat.le_of_ble_eq_true rfl | rfl | omega | (simp only [lensB, lensC]; omega) | exact bytes_ok (Nat.le_of_ble_eq_true rfl) (by omega) (by simp only [lensB, lensC]; omega) | exact bytes_okN (Nat.le_of_ble_eq_true rfl) (by simp only [lensB, lensC]; omega)) | fail)) ?_
 | fail
  all_goals
    conv => whnf
    refine OutA_plain rfl rfl ?_
    first
    | (have hb := any_hit hT.1 hx (by simpa using (by assumption : x = key)); simp only [hb]; rfl)
    | (have hb := any_end hT.1 (by assumption); simp only [hb]; rfl)
def apartS (g : HeldT) (reads : List (List UInt8)) (ws : List WriteT) : Bool := !(reads.any fun k => wrote g.Writes k) && !(ws.any fun w => wrote g.Writes w.Key || g.Reads.any fun x => x == w.Key)
theorem c_spec_l13Apart (g : HeldT) (reads : List (List UInt8)) (ws : List WriteT) (hok : g.ok) (h1 : reads.length ≤ 9223372036854775807) (h2 : ws.length ≤ 9223372036854775807) : PC Tryz.prog false 102 [.agg g.cells, .sl (reads.map strC), .sl (ws.map WriteT.cells)] (.bool (apartS g reads ws)) [] := by
  refine pc_at Tryz.func102 rfl (by kernel_rfl) 41 [.tmp 6] rfl rfl ?_
  repeat' (conv => whnf); first
 | refine ix_as (f := WriteT.cells) (m := j) rfl (by omega) (fun w hw => ?_)
 | (refine nameB_cases (b := wrote g.Writes w.Key) (fun h => ?_) (fun h => ?_))
 | (refine nameB_cases (b := wrote g.Writes x) (fun h => ?_) (fun h => ?_))
 | (refine nameB_cases (b := g.Reads.any _) (fun h => ?_) (fun h => ?_))
 | (refine nameB_dec (fun h => ?_) (fun h => ?_) <;> try simp only [lensB] at h)
 | refine splitB_true ?_
 | refine splitB_false ?_
 | (refine Loop_at [2, 3, 11, 12] [0] (Nat) (fun k => ((reads.drop k).any fun x => wrote g.Writes x) = (reads.any fun x => wrote g.Writes x) ∧ k ≤ reads.length) (fun k => [(13, .int .i64 (k : Nat))]) (fun k => []) (fun k => reads.length - k) 0 ⟨by first | (simp_all <;> fail) | rfl | fail, trivial⟩ trivial (by (try dsimp only); first | (exact ⟨rfl, by omega⟩) | fail) ?_; (conv => whnf); refine side_and (side_of (by first | exact fun k => rfl | exact fun k => by simp [headOk, closedE, closedO, closedL, AV.closed, hcap.closed, hasId, AObj.box, BK.ofB])) ?_; rintro k hT; try dsimp only at hT)
 | (refine Loop_at [3, 22, 23] [0] (Nat) (fun j => ((ws.drop j).any fun w => wrote g.Writes w.Key || g.Reads.any fun x => x == w.Key) = (ws.any fun w => wrote g.Writes w.Key || g.Reads.any fun x => x == w.Key) ∧ j ≤ ws.length) (fun j => [(24, .int .i64 (j : Nat))]) (fun j => []) (fun j => ws.length - j) 0 ⟨by first | (simp_all <;> fail) | rfl | fail, trivial⟩ trivial (by (try dsimp only); first | (exact ⟨rfl, by omega⟩) | fail) ?_; (conv => whnf); refine side_and (side_of (by first | exact fun j => rfl | exact fun j => by simp [headOk, closedE, closedO, closedL, AV.closed, hcap.closed, hasId, AObj.box, BK.ofB])) ?_; rintro j hJ; try dsimp only at hJ)
 | refine Again_of (k + 1) ⟨by first | rfl | exact i64_next (by omega) | (simp_all <;> fail) | fail, trivial⟩ trivial (by first | (and_intros <;> first | rfl | trivial) | fail) (by first | (and_intros <;> first | rfl | trivial) | fail) rfl rfl rfl (by (try dsimp only); first | (exact ⟨any_go hT.1 hx (by assumption), by omega⟩) | fail) (show _ < _ by (try dsimp only); omega)
 | refine Again_of (j + 1) ⟨by first | rfl | exact i64_next (by omega) | (simp_all <;> fail) | fail, trivial⟩ trivial (by first | (and_intros <;> first | rfl | trivial) | fail) (by first | (and_intros <;> first | rfl | trivial) | fail) rfl rfl rfl (by (try dsimp only); first | (exact ⟨any_go hJ.1 hw (or_ff (by assumption) (by assumption)), by omega⟩) | fail) (show _ < _ by (try dsimp only); omega)
 | refine Call0 (c_spec_l13Wrote g.Writes x hok.2.2.2.2.1) rfl rfl ?_
 | refine Call0 (c_spec_l13Wrote g.Writes w.Key hok.2.2.2.2.1) rfl rfl ?_
 | refine Call0 (c_spec_l1HasS g.Reads w.Key hok.2.2.2.1.1) rfl rfl ?_
 | (refine ix_map (by omega) (by (try simp only [List.length_take]); omega) (fun x hx => ?_); try simp only [Int.toNat_natCast] at hx)
 | refine side_and (side_of (by first | (and_intros <;> first | exact Nat.le_of_ble_eq_true rfl | rfl | omega | (simp only [lensB, lensC]; omega) | exact bytes_ok (Nat.le_of_ble_eq_true rfl) (by omega) (by simp only [lensB, lensC]; omega) | exact bytes_okN (Nat.le_of_ble_eq_true rfl) (by simp only [lensB, lensC]; omega)) | fail)) ?_
 | fail
  all_goals
    conv => whnf
    refine OutA_plain rfl rfl ?_
    first
    | (have hb := any_hit hT.1 hx (by assumption); simp only [apartS, hb, Bool.not_true, Bool.false_and]; rfl)
    | (have hb := any_hit hJ.1 hw (or_t1 (by assumption)); simp only [apartS, hb, Bool.not_true, Bool.and_false]; rfl)
    | (have hb := any_hit hJ.1 hw (or_t2 (by assumption)); simp only [apartS, hb, Bool.not_true, Bool.and_false]; rfl)
    | (have hb := any_end hT.1 (by assumption); have hb2 := any_end hJ.1 (by assumption); simp only [apartS, hb, hb2, Bool.not_false, Bool.and_true]; rfl)
def kEq (key : List UInt8) (c : CellT) : Bool := c.Key == key
theorem c_spec_l3At (l : List CellT) (key : List UInt8) (hl : l.length ≤ 9223372036854775807) : PC Tryz.prog false 104 [.sl (l.map CellT.cells), .str key] (.int .i64 (idxF (kEq key) 0 l)) [] := by
  refine pc_at Tryz.func104 rfl (by kernel_rfl) 20 [.tmp 4] rfl rfl ?_
  repeat' (conv => whnf); first
 | (refine nameB_dec (fun h => ?_) (fun h => ?_) <;> try simp only [lensB] at h)
 | (refine nameB_cases (fun h => ?_) (fun h => ?_) <;> try simp only [nmL, lensB] at h)
 | refine splitB_true ?_
 | refine splitB_false ?_
 | ((refine Loop_at [1, 7, 8] [] (Nat) (fun k => idxF (kEq key) k (l.drop k) = idxF (kEq key) 0 l ∧ k ≤ l.length) (fun k => [(9, .int .i64 (k : Nat))]) (fun k => []) (fun k => l.length - k) 0 ⟨by first | (simp_all <;> fail) | rfl | fail, trivial⟩ trivial (by (try dsimp only); first | trivial | (refine ⟨?_, by omega⟩; simp <;> fail) | (simp <;> fail) | fail) ?_; (conv => whnf); refine side_and (side_of (by first | exact fun k => rfl | exact fun k => by simp [headOk, closedE, closedO, closedL, AV.closed, hcap.closed, hasId, AObj.box, BK.ofB])) ?_; rintro k hT; try dsimp only at hT))
 | (refine Again_of (k + 1) ⟨by first | rfl | exact i64_next (by omega) | (simp_all <;> fail) | fail, trivial⟩ trivial (by first | (and_intros <;> first | rfl | trivial) | fail) (by first | (and_intros <;> first | rfl | trivial) | fail) rfl rfl rfl (by (try dsimp only); (refine ⟨?_, by omega⟩; first | (rw [← hT.1, drop_get hx]; simp_all [idxF, kEq, List.all_cons, List.any_cons] <;> fail) | (have hg := drop_get hx; simp_all [idxF, kEq, List.all_cons, List.any_cons] <;> fail) | fail)) (show _ < _ by (try dsimp only); omega))
 | (refine ix_map (by omega) (by (try simp only [List.length_take]); omega) (fun x hx => ?_); try simp only [Int.toNat_natCast] at hx)
 | refine side_and (side_of (by first | (and_intros <;> first | exact Nat.le_of_ble_eq_true rfl | rfl | omega | (simp only [lensB, lensC]; omega) | exact bytes_ok (Nat.le_of_ble_eq_true rfl) (by omega) (by simp only [lensB, lensC]; omega) | exact bytes_okN (Nat.le_of_ble_eq_true rfl) (by simp only [lensB, lensC]; omega)) | fail)) ?_
 | fail
  all_goals
    conv => whnf
    refine OutA_plain rfl rfl ?_
    first
    | (simp_all [idxF, kEq, named, AV.sub, AV.sub.subL]; done)
    | (rw [← hT.1, drop_get hx]; simp_all [idxF, kEq, List.all_cons, List.any_cons, named, AV.sub, AV.sub.subL]; done)
    | (have hg := drop_get hx; simp_all [idxF, kEq, List.all_cons, List.any_cons, named, AV.sub, AV.sub.subL]; done)
    | (rw [List.drop_eq_nil_of_le (by omega)] at hT; simp_all [idxF, kEq, named, AV.sub, AV.sub.subL]; done)
def lastS (l : List CellT) (key : List UInt8) : Int := match l.find? (kEq key) with | some c => (match c.Vers.getLast? with | some v => v.Time | none => 0) | none => 0
theorem idxF_find {α : Type} {q : α → Bool} : ∀ {xs : List α} {k : Nat} {n : Int}, idxF q k xs = n → 0 ≤ n → xs.find? q = xs[n.toNat - k]?
  | [], k, n, h, hn => by unfold idxF at h; omega
  | x :: xs, k, n, h, hn => by
    unfold idxF at h
    by_cases hq : q x = true
    · rw [if_pos hq] at h
      subst h
      have : (k : Int).toNat - k = 0 := by simp
      rw [this, List.find?_cons_of_pos hq]; rfl
    · rw [if_neg hq] at h
      have h2 := idxF_find (xs := xs) (k := k + 1) h hn
      obtain ⟨_, _, _, h3⟩ := idxF_lt h hn
      have : n.toNat - k = (n.toNat - (k + 1)) + 1 := by omega
      rw [this, List.find?_cons_of_neg hq, h2]
      simp
theorem idxF_none {α : Type} {q : α → Bool} {xs : List α} {k : Nat} (h : idxF q k xs < 0) : xs.find? q = none := by
  have : ¬ (xs.any q = true) := fun e => by have := idxF_pos (k := k).2 e; omega
  rw [List.find?_eq_none]
  intro x hx
  exact fun e => this (List.any_eq_true.2 ⟨x, hx, e⟩)
theorem lastS_no {l : List CellT} {key : List UInt8} (h : idxF (kEq key) 0 l < 0) : lastS l key = 0 := by
  unfold lastS; rw [idxF_none (k := 0) h]
theorem lastS_yes {l : List CellT} {key : List UInt8} {c : CellT} {v : VerT} (h : ¬ idxF (kEq key) 0 l < 0) (hx : l[(idxF (kEq key) 0 l).toNat]? = some c) (hv : c.Vers[c.Vers.length - 1]? = some v) : lastS l key = v.Time := by
  unfold lastS
  rw [idxF_find (k := 0) rfl (by omega), Nat.sub_zero]
  simp only [hx, List.getLast?_eq_getElem?, hv]
theorem idxF_bound {α : Type} {q : α → Bool} {xs : List α} (h : ¬ idxF q 0 xs < 0) : (idxF q 0 xs).toNat < xs.length := by
  obtain ⟨x, h1, _⟩ := idxF_lt (xs := xs) (k := 0) (q := q) rfl (by omega)
  exact (List.getElem?_eq_some_iff.1 h1).1
theorem c_spec_l3Last (l : List CellT) (key : List UInt8) (hok : okL CellT.ok l) (hne : ∀ c ∈ l, 0 < c.Vers.length) : PC Tryz.prog false 67 [.sl (l.map CellT.cells), .str key] (.int .i64 (lastS l key)) [] := by
  refine pc_at Tryz.func67 rfl (by kernel_rfl) 26 [.tmp 4] rfl rfl ?_
  repeat' (conv => whnf); first
 | (refine ix_re (n := idxF (kEq key) 0 l) (by omega) hx ?_)
 | (refine ix_as (m := (idxF (kEq key) 0 l).toNat) (by omega) (idxF_bound (by assumption)) (fun x hx => ?_))
 | refine ix_as (m := x.Vers.length - 1) (by have hnx := hne x (List.mem_of_getElem? hx); have hlx := (hok.2 x (List.mem_of_getElem? hx)).2.1; simp only [i64_wrap_eq, List.length_map]; omega) (by have hnx := hne x (List.mem_of_getElem? hx); omega) (fun v hv => ?_)
 | (refine nameB_dec (fun h => ?_) (fun h => ?_) <;> try simp only [lensB] at h)
 | refine splitB_true ?_
 | refine splitB_false ?_
 | refine draw_text (by kernel_rfl) (by kernel_rfl) (by kernel_rfl) ?_
 | refine Call0 (c_spec_l3At l key hok.1) rfl rfl ?_
 | refine side_and (side_of (by first | (and_intros <;> first | exact Nat.le_of_ble_eq_true rfl | rfl | omega | (simp only [lensB, lensC]; omega) | exact bytes_ok (Nat.le_of_ble_eq_true rfl) (by omega) (by simp only [lensB, lensC]; omega) | exact bytes_okN (Nat.le_of_ble_eq_true rfl) (by simp only [lensB, lensC]; omega)) | fail)) ?_
 | refine LoadK_of rfl rfl ?_
 | fail
  all_goals
    conv => whnf
    refine OutA_plain rfl rfl ?_
    first
    | exact congrArg (AV.int .i64) (lastS_no (by assumption)).symm
    | exact congrArg (AV.int .i64) (lastS_yes (by assumption) hx hv).symm
end Go.Proofs.YthbheejeloomjaaGreat
