/-
  Logs, replicas and groups: which are good, in the program and in the reference.
  No condition.
-/
import Derived.Test.YtfpkfnfgloonhaaGreatTypesC
import Derived.Test.YtfpkfnfgloonhaaGreatState3
import Derived.Test.YtfpkfnfgloonhaaGreatState7
namespace Go.Proofs.YtfpkfnfgloonhaaGreat
open Go.Ab
set_option linter.unusedSimpArgs false
set_option maxRecDepth 20000
set_option maxHeartbeats 4000000
set_option linter.unusedVariables false

theorem allR_go {α : Type} {q : α → Bool} {xs : List α} {k : Nat} {B : Bool} {x : α} (h : (xs.drop k).all q = B) (hx : xs[k]? = some x) (hq : q x = true) : (xs.drop (k + 1)).all q = B := by
  rw [drop_get hx, List.all_cons, hq, Bool.true_and] at h
  exact h
theorem allR_bad {α : Type} {q : α → Bool} {xs : List α} {k : Nat} {B : Bool} {x : α} (h : (xs.drop k).all q = B) (hx : xs[k]? = some x) (hq : q x = false) : B = false := by
  rw [drop_get hx, List.all_cons, hq, Bool.false_and] at h
  exact h.symm
theorem allR_end {α : Type} {q : α → Bool} {xs : List α} {k : Nat} {B : Bool} (h : (xs.drop k).all q = B) (hk : ¬ (k : Int) < xs.length) : B = true := by
  rw [List.drop_eq_nil_of_le (by omega)] at h
  exact h.symm
theorem inB_sp {a n b : Int} (h : inB a n b = true) : a ≤ n ∧ n ≤ b := by simpa only [inB, Bool.and_eq_true, decide_eq_true_eq] using h
def entAt (term : Int) (pre : List EntryT) (e : EntryT) : Bool := (inB 1 e.Term term && okRec e.Rec) && prevB (fun a b => decide (a.Term ≤ b.Term)) pre e
def okLog (l : List EntryT) (term : Int) : Bool := allPre (entAt term) [] l && decide ((l.length : Int) ≤ 60)
theorem entAt_yes {term : Int} {pre : List EntryT} {e : EntryT} (h1 : inB 1 e.Term term = true) (h2 : okRec e.Rec = true) (h3 : prevB (fun a b : EntryT => decide (a.Term ≤ b.Term)) pre e = true) : entAt term pre e = true := by simp only [entAt, h1, h2, h3, Bool.and_true]
theorem entAt_no {term : Int} {pre : List EntryT} {e : EntryT} (h : inB 1 e.Term term = false ∨ okRec e.Rec = false ∨ prevB (fun a b : EntryT => decide (a.Term ≤ b.Term)) pre e = false) : entAt term pre e = false := by
  rcases h with h | h | h <;> simp only [entAt, h, Bool.false_and, Bool.and_false]
theorem ent_len {e : EntryT} (h : e.w ≤ 1048576) : e.Rec.Writes.length ≤ 1048576 ∧ e.Rec.Reads.length ≤ 1048576 := by
  have h2 : e.w = wL List.length e.Rec.Reads + wL WriteT.w e.Rec.Writes := rfl
  have h3 := wL_len (w := List.length) (xs := e.Rec.Reads)
  have h4 := wL_len (w := WriteT.w) (xs := e.Rec.Writes)
  omega
theorem log_mem {l : List EntryT} {e : EntryT} {k : Nat} (hw : wL EntryT.w l ≤ 1048576) (h : l[k]? = some e) : e.w ≤ 1048576 := Nat.le_trans (wL_mem (List.mem_of_getElem? h)).2 hw
theorem c_impl_isLog (l : List EntryT) (term : Int) (hok : okL EntryT.ok l) (hw : wL EntryT.w l ≤ 1048576) : PC Tryz.prog false 101 [.sl (l.map EntryT.cells), .int .i64 term] (.bool (okLog l term)) [] := by
  have hl := hok.1
  refine pc_at Tryz.func101 rfl (by kernel_rfl) 44 [.tmp 4] rfl rfl ?_
  repeat' (conv => whnf); first
    | refine ix_as (m := k - 1) (by simp only [i64_wrap_eq]; omega) (by omega) (fun y hy => ?_)
    | refine nameB_self (b := x.Rec.Yes) ?_
    | refine nameB_self (b := y.Rec.Yes) ?_
    | (refine nameB_cases (b := okRec x.Rec) (fun h => ?_) (fun h => ?_))
    | refine nameB_true ?_
    | refine nameB_false ?_
    | refine nameB_yes (by assumption) ?_
    | refine nameB_no (by assumption) ?_
    | refine nameB_dyes (by assumption) ?_
    | refine nameB_dno (by assumption) ?_
    | (refine nameB_dec (fun h => ?_) (fun h => ?_) <;> try simp only [lensB, midL_len, mkL_length, Int.toNat_natCast, fact_byte] at h)
    | (refine nameB_cases (fun h => ?_) (fun h => ?_) <;> try simp only [bne_iff_ne, ne_eq, bne_eq_false_iff_eq, beq_iff_eq, beq_eq_false_iff_ne, Bool.not_eq_true', Bool.not_eq_false', Bool.or_eq_true, Bool.or_eq_false_iff, lensB, midL_len, mkL_length, Int.toNat_natCast, fact_byte] at h)
    | refine splitB_true ?_
    | refine splitB_false ?_
    | (refine splitB_intro (fun h => ?_) (fun h => ?_) <;> subst h)
    | refine draw_text (by kernel_rfl) (by kernel_rfl) (by kernel_rfl) ?_
    | refine both_intro ?_ ?_
    | refine eitherB_l ?_
    | exact True.intro
    | (show Go.Ab.Loop _ _ _; (refine Loop_at [0, 1, 7, 8] [] (Nat) (fun k => allPre (entAt term) (l.take k) (l.drop k) = allPre (entAt term) [] l ∧ k ≤ l.length) (fun k => [(9, .int .i64 (k : Nat))]) (fun k => []) (fun k => l.length - k) 0 ⟨by first | (simp_all <;> fail) | rfl | fail, trivial⟩ trivial (by (try dsimp only); first | (exact ⟨rfl, by omega⟩) | fail) ?_; (conv => whnf); refine side_and (side_of (by first | exact fun k => rfl | exact fun k => by simp [headOk, closedE, closedO, closedL, AV.closed, hcap.closed, hasId, AObj.box, BK.ofB])) ?_; rintro k hT; try dsimp only at hT))
    | (show Go.Ab.Again _ _ _ _ _ _ _ _ _ _ _; refine Again_of (k + 1) ⟨by first | rfl | exact i64_next (by omega) | (simp_all <;> fail) | fail, trivial⟩ trivial (by first | (and_intros <;> first | rfl | trivial) | fail) (by first | (and_intros <;> first | rfl | trivial) | fail) rfl rfl rfl (by (try dsimp only); first | (first | exact ⟨allPre_go hT.1 hx (entAt_yes (by assumption) (by assumption) (prevB_zero (by assumption))), by omega⟩ | exact ⟨allPre_go hT.1 hx (entAt_yes (by assumption) (by assumption) ((prevB_pos (by assumption) hy).trans (decide_eq_true (by omega)))), by omega⟩) | fail) (show _ < _ by (try dsimp only); omega))
    | (show Go.Ab.CallA _ _ _ _ _ _ _; first
        | refine Call0 (c_impl_within ..) rfl rfl ?_
        | refine Call0 (c_impl_GoodRec x.Rec (hok.2 x (List.mem_of_getElem? hx)).2 (ent_len (log_mem hw hx)).1 (ent_len (log_mem hw hx)).2) rfl rfl ?_)
    | (show Go.Ab.CallD _ _ _ _ _ _ _; first
        | refine CallD0 (c_impl_within ..) rfl rfl rfl ?_
        | refine CallD0 (c_impl_GoodRec x.Rec (hok.2 x (List.mem_of_getElem? hx)).2 (ent_len (log_mem hw hx)).1 (ent_len (log_mem hw hx)).2) rfl rfl rfl ?_)
    | refine ix_map_at hx ?_
    | refine ix_map_at hy ?_
    | refine sl_pre (by omega) (fun _ => rfl) ?_
    | refine sl_suf (by omega) (fun _ => rfl) ?_
    | (refine ix_map2 hx (by omega) (by (try simp only [List.length_take]); omega) (fun y hy => ?_); try simp only [Int.toNat_natCast] at hy)
    | (refine ix_map (by omega) (by (try simp only [List.length_take]); omega) (fun x hx => ?_); try simp only [Int.toNat_natCast] at hx)
    | refine side_and (side_of (by first | (and_intros <;> first | exact Nat.le_of_ble_eq_true rfl | rfl | omega | (simp only [lensB, lensC, List.length_replicate, midL_len, mkL_length]; omega) | exact bytes_ok (Nat.le_of_ble_eq_true rfl) (by omega) (by simp only [lensB, lensC, List.length_replicate, midL_len, mkL_length]; omega) | exact bytes_okN (Nat.le_of_ble_eq_true rfl) (by simp only [lensB, lensC, List.length_replicate, midL_len, mkL_length]; omega)) | fail)) ?_
    | refine nilB_intro (fun h => ?_) ?_
    | refine side_and (side_of (show Go.Ab.structOk _ _ = true by kernel_rfl)) ?_
    | refine side_and (side_of (map_len (fun _ => rfl))) ?_
    | refine side_and (side_of (map_one (fun _ => rfl) _)) ?_
    | refine side_and ?_ ?_
    | refine LoadK_of rfl rfl ?_
    | refine LoadD_cel rfl rfl rfl rfl ?_
    | refine LoadD_of rfl ?_
    | refine StoreD_of rfl rfl rfl ?_
    | refine AppD_of rfl (by and_intros <;> first | rfl | decide) (by simp only [lensC]; first | (refine ⟨by omega, ?_⟩; refine Nat.le_trans (Nat.mul_le_mul_left _ (show _ ≤ 512 by decide)) ?_; omega) | fail) ?_
    | refine AppN_of rfl rfl (by and_intros <;> rfl) (by simp only [lensC]; first | (refine ⟨by omega, ?_⟩; refine Nat.le_trans (Nat.mul_le_mul_left _ (show _ ≤ 512 by decide)) ?_; omega) | fail) ?_
    | (show False; omega)
  all_goals
    conv => whnf
    refine OutA_plain rfl rfl ?_
    first
    | (have hb := allPre_bad hT.1 hx (entAt_no (.inl (by assumption))); simp only [okLog, hb, Bool.false_and]; rfl)
    | (have hb := allPre_bad hT.1 hx (entAt_no (.inr (.inl (by assumption)))); simp only [okLog, hb, Bool.false_and]; rfl)
    | (have hb := allPre_bad hT.1 hx (entAt_no (.inr (.inr ((prevB_pos (by assumption) hy).trans (decide_eq_false (by omega)))))); simp only [okLog, hb, Bool.false_and]; rfl)
    | (have hb := allPre_end hT.1 (by assumption); simp only [okLog, hb, Bool.true_and, *]; rfl)
def lastT (l : List EntryT) : Int := match l.getLast? with | none => 1 | some e => e.Term
theorem lastT_next {l : List EntryT} {k : Nat} {x : EntryT} (hx : l[k]? = some x) : lastT (l.take (k + 1)) = x.Term := by
  unfold lastT
  rw [take_get hx, List.getLast?_append, List.getLast?_singleton]
  rfl
theorem entAt_last {term : Int} {pre : List EntryT} {e : EntryT} (h : 1 ≤ lastT pre) : entAt term pre e = (inB (lastT pre) e.Term term && okRec e.Rec) := by
  unfold entAt prevB
  unfold lastT at *
  cases hg : pre.getLast? with
  | none => simp only [hg, Bool.and_true]
  | some y =>
    simp only [hg] at h ⊢
    unfold inB
    cases okRec e.Rec <;> by_cases h1 : 1 ≤ e.Term <;> by_cases h2 : y.Term ≤ e.Term <;> simp [h1, h2] <;> omega
theorem entAt_lyes {term : Int} {pre : List EntryT} {e : EntryT} (h : 1 ≤ lastT pre) (h1 : inB (lastT pre) e.Term term = true) (h2 : okRec e.Rec = true) : entAt term pre e = true := by rw [entAt_last h, h1, h2]; rfl
theorem entAt_lno {term : Int} {pre : List EntryT} {e : EntryT} (h : 1 ≤ lastT pre) (h1 : inB (lastT pre) e.Term term = false ∨ okRec e.Rec = false) : entAt term pre e = false := by
  rw [entAt_last h]
  rcases h1 with h1 | h1 <;> simp [h1]
def okRep (term : Int) (r : ReplicaT) : Bool := okLog r.Log term && inB 0 r.Sure (r.Log.length : Int)
theorem c_spec_l9GoodRep (r : ReplicaT) (term : Int) (hok : r.ok) (hw : r.w ≤ 1048576) : PC Tryz.prog false 50 [.agg r.cells, .int .i64 term] (.bool (okRep term r)) [] := by
  have hl := hok.2.1.1
  have hw2 : wL EntryT.w r.Log ≤ 1048576 := hw
  refine pc_at Tryz.func50 rfl (by kernel_rfl) 53 [.tmp 4] rfl rfl ?_
  repeat' (conv => whnf); first
    | refine nameB_self (b := x.Rec.Yes) ?_
    | refine nameB_self (b := r.Up) ?_
    | (refine nameB_cases (b := okRec x.Rec) (fun h => ?_) (fun h => ?_))
    | refine nameB_true ?_
    | refine nameB_false ?_
    | refine nameB_yes (by assumption) ?_
    | refine nameB_no (by assumption) ?_
    | refine nameB_dyes (by assumption) ?_
    | refine nameB_dno (by assumption) ?_
    | (refine nameB_dec (fun h => ?_) (fun h => ?_) <;> try simp only [lensB, midL_len, mkL_length, Int.toNat_natCast, fact_byte] at h)
    | (refine nameB_cases (fun h => ?_) (fun h => ?_) <;> try simp only [bne_iff_ne, ne_eq, bne_eq_false_iff_eq, beq_iff_eq, beq_eq_false_iff_ne, Bool.not_eq_true', Bool.not_eq_false', Bool.or_eq_true, Bool.or_eq_false_iff, lensB, midL_len, mkL_length, Int.toNat_natCast, fact_byte] at h)
    | refine splitB_true ?_
    | refine splitB_false ?_
    | (refine splitB_intro (fun h => ?_) (fun h => ?_) <;> subst h)
    | refine draw_text (by kernel_rfl) (by kernel_rfl) (by kernel_rfl) ?_
    | refine both_intro ?_ ?_
    | refine eitherB_l ?_
    | exact True.intro
    | (show Go.Ab.Loop _ _ _; (refine Loop_at [1, 2] [0] (Nat) (fun k => allPre (entAt term) (r.Log.take k) (r.Log.drop k) = allPre (entAt term) [] r.Log ∧ k ≤ r.Log.length ∧ 1 ≤ lastT (r.Log.take k)) (fun k => [(5, .int .i64 (lastT (r.Log.take k))), (6, .int .i64 (k : Nat))]) (fun k => []) (fun k => r.Log.length - k) 0 ⟨by first | first | rfl | exact congrArg (AV.int .i64) (lastT_next hx).symm | rfl | fail, by first | first | rfl | exact congrArg (AV.int .i64) (lastT_next hx).symm | rfl | fail, trivial⟩ trivial (by (try dsimp only); first | (exact ⟨rfl, by omega, Int.le_refl _⟩) | fail) ?_; (conv => whnf); refine side_and (side_of (by first | exact fun k => rfl | exact fun k => by simp [headOk, closedE, closedO, closedL, AV.closed, hcap.closed, hasId, AObj.box, BK.ofB])) ?_; rintro k hT; try dsimp only at hT))
    | (show Go.Ab.Again _ _ _ _ _ _ _ _ _ _ _; refine Again_of (k + 1) ⟨by first | first | rfl | exact congrArg (AV.int .i64) (lastT_next hx).symm | rfl | fail, by first | rfl | exact i64_next (by omega) | first | rfl | exact congrArg (AV.int .i64) (lastT_next hx).symm | fail, trivial⟩ trivial (by first | (and_intros <;> first | rfl | trivial) | fail) (by first | (and_intros <;> first | rfl | trivial) | fail) rfl rfl rfl (by (try dsimp only); first | (exact ⟨allPre_go hT.1 hx (entAt_lyes hT.2.2 (by assumption) (by assumption)), by omega, by rw [lastT_next hx]; have h9 := inB_sp (by assumption); omega⟩) | fail) (show _ < _ by (try dsimp only); omega))
    | (show Go.Ab.CallA _ _ _ _ _ _ _; first
        | refine Call0 (c_spec_l1In ..) rfl rfl ?_
        | refine Call0 (c_spec_l4Good x.Rec (hok.2.1.2 x (List.mem_of_getElem? hx)).2 (ent_len (log_mem hw2 hx)).1 (ent_len (log_mem hw2 hx)).2) rfl rfl ?_
        | refine CallI (nid := 4096 * 7 + 16 * 17) (f := 97) Tryz.func97 rfl (by kernel_rfl) 1000000 [1, 2, 6, 37] 5 [.tmp 2] rfl rfl ?_)
    | (show Go.Ab.RetI _ _ _ _ _ _ _ _; refine RetI_of rfl ?_)
    | refine ix_map_at hx ?_
    | refine ix_map_at hy ?_
    | refine sl_pre (by omega) (fun _ => rfl) ?_
    | refine sl_suf (by omega) (fun _ => rfl) ?_
    | (refine ix_map2 hx (by omega) (by (try simp only [List.length_take]); omega) (fun y hy => ?_); try simp only [Int.toNat_natCast] at hy)
    | (refine ix_map (by omega) (by (try simp only [List.length_take]); omega) (fun x hx => ?_); try simp only [Int.toNat_natCast] at hx)
    | refine side_and (side_of (by first | (and_intros <;> first | exact Nat.le_of_ble_eq_true rfl | rfl | omega | (simp only [lensB, lensC, List.length_replicate, midL_len, mkL_length]; omega) | exact bytes_ok (Nat.le_of_ble_eq_true rfl) (by omega) (by simp only [lensB, lensC, List.length_replicate, midL_len, mkL_length]; omega) | exact bytes_okN (Nat.le_of_ble_eq_true rfl) (by simp only [lensB, lensC, List.length_replicate, midL_len, mkL_length]; omega)) | fail)) ?_
    | refine nilB_intro (fun h => ?_) ?_
    | refine side_and (side_of (show Go.Ab.structOk _ _ = true by kernel_rfl)) ?_
    | refine side_and (side_of (map_len (fun _ => rfl))) ?_
    | refine side_and (side_of (map_one (fun _ => rfl) _)) ?_
    | refine side_and ?_ ?_
    | refine LoadK_of rfl rfl ?_
    | refine LoadD_cel rfl rfl rfl rfl ?_
    | refine LoadD_of rfl ?_
    | refine StoreD_of rfl rfl rfl ?_
    | refine AppD_of rfl (by and_intros <;> first | rfl | decide) (by simp only [lensC]; first | (refine ⟨by omega, ?_⟩; refine Nat.le_trans (Nat.mul_le_mul_left _ (show _ ≤ 512 by decide)) ?_; omega) | fail) ?_
    | refine AppN_of rfl rfl (by and_intros <;> rfl) (by simp only [lensC]; first | (refine ⟨by omega, ?_⟩; refine Nat.le_trans (Nat.mul_le_mul_left _ (show _ ≤ 512 by decide)) ?_; omega) | fail) ?_
    | (show False; omega)
  all_goals
    conv => whnf
    refine OutA_plain rfl rfl ?_
    first
    | (have hb := allPre_bad hT.1 hx (entAt_lno hT.2.2 (.inl (by assumption))); simp only [okRep, okLog, hb, Bool.false_and]; rfl)
    | (have hb := allPre_bad hT.1 hx (entAt_lno hT.2.2 (.inr (by assumption))); simp only [okRep, okLog, hb, Bool.false_and]; rfl)
    | (have hb := allPre_end hT.1 (by assumption); have h9 : (r.Log.length : Int) ≤ 60 := (by omega); simp only [okRep, okLog, hb, h9, Bool.true_and, decide_true, *]; rfl)
    | (have h9 : ¬ (r.Log.length : Int) ≤ 60 := (by omega); simp only [okRep, okLog, h9, Bool.false_and, Bool.and_false, decide_false]; rfl)
    | (simp only [okRep, Bool.and_false, *]; rfl)
end Go.Proofs.YtfpkfnfgloonhaaGreat
