/-
  What the reference's functions on held transactions give.
  No condition.
-/
import Derived.Test.YtgkghkcahepicaaGreatState3
import Derived.Test.YtgkghkcahepicaaGreatM4
namespace Go.Proofs.YtgkghkcahepicaaGreat
open Go.Ab
set_option linter.unusedSimpArgs false
set_option maxRecDepth 20000
set_option maxHeartbeats 4000000
set_option linter.unusedVariables false

theorem c_spec_l4Good (r : RecT) (hok : r.ok) (hw : r.Writes.length ≤ 1048576) (hr : r.Reads.length ≤ 1048576) : PC Tryz.prog false 126 [.agg r.cells] (.bool (okRec r)) [] := by
  have hs : IntKind.i64.wrap ((r.Reads.length : Int) + (r.Writes.length : Int)) = (r.Reads.length : Int) + (r.Writes.length : Int) := i64_wrap (by omega) (by omega)
  refine pc_at Tryz.func126 rfl (by kernel_rfl) 112 [.tmp 2] rfl rfl ?_
  repeat' (conv => whnf); first
    | (conv => arg 1; rw [hs])
    | (conv => arg 1; arg 1; rw [hs])
    | (refine nameB_cases (b := r.Yes) (fun h => ?_) (fun h => ?_))
    | refine nameB_true ?_
    | refine nameB_false ?_
    | refine nameB_yes (by assumption) ?_
    | refine nameB_no (by assumption) ?_
    | refine nameB_dyes (by assumption) ?_
    | refine nameB_dno (by assumption) ?_
    | (refine nameB_dec (fun h => ?_) (fun h => ?_) <;> try simp only [lensB, midL_len, mkL_length, Int.toNat_natCast, fact_byte] at h)
    | (refine nameB_cases (fun h => ?_) (fun h => ?_) <;> try simp only [bne_iff_ne, ne_eq, bne_eq_false_iff_eq, beq_iff_eq, beq_eq_false_iff_ne, Bool.not_eq_true', Bool.not_eq_false', Bool.or_eq_true, Bool.or_eq_false_iff, lensB, midL_len, mkL_length, Int.toNat_natCast, fact_byte] at h)
    | refine splitB_true ?_
    | refine splitB_false ?_
    | (refine splitB_intro (fun h => ?_) (fun h => ?_) <;> subst h)
    | refine draw_text (by kernel_rfl) (by kernel_rfl) (by kernel_rfl) ?_
    | refine both_intro ?_ ?_
    | refine eitherB_l ?_
    | exact True.intro
    | (show Go.Ab.CallA _ _ _ _ _ _ _; first
        | refine Call0 (c_spec_l1In ..) rfl rfl ?_
        | refine Call0 (c_spec_l3Time ..) rfl rfl ?_
        | refine Call0 (c_spec_l4Keys r.Reads hok.2.2.2.2.1) rfl rfl ?_
        | refine Call0 (c_spec_l3Writes r.Writes hok.2.2.2.2.2.1) rfl rfl ?_)
    | refine ix_map_at hx ?_
    | refine ix_map_at hy ?_
    | refine sl_pre (by omega) (fun _ => rfl) ?_
    | refine sl_suf (by omega) (fun _ => rfl) ?_
    | (refine ix_map2 hx (by omega) (by (try simp only [List.length_take]); omega) (fun y hy => ?_); try simp only [Int.toNat_natCast] at hy)
    | (refine ix_map (by omega) (by (try simp only [List.length_take]); omega) (fun x hx => ?_); try simp only [Int.toNat_natCast] at hx)
    | refine side_and (side_of (by first | (and_intros <;> first | exact Nat.le_of_ble_eq_true rfl | rfl | omega | (simp only [lensB, lensC, List.length_replicate, midL_len, mkL_length]; omega) | exact bytes_ok (Nat.le_of_ble_eq_true rfl) (by omega) (by simp only [lensB, lensC, List.length_replicate, midL_len, mkL_length]; omega) | exact bytes_okN (Nat.le_of_ble_eq_true rfl) (by simp only [lensB, lensC, List.length_replicate, midL_len, mkL_length]; omega)) | fail)) ?_
    | refine nilB_intro (fun h => ?_) ?_
    | refine side_and (side_of (show Go.Ab.structOk _ _ = true by kernel_rfl)) ?_
    | refine side_and (side_of (map_len (fun _ => rfl))) ?_
    | refine side_and (side_of (map_one (fun _ => rfl) _)) ?_
    | refine side_and ?_ ?_
    | refine LoadK_of rfl rfl ?_
    | refine LoadD_cel rfl rfl rfl rfl ?_
    | refine LoadD_of rfl ?_
    | refine StoreD_of rfl rfl rfl ?_
    | refine AppD_of rfl (by and_intros <;> first | rfl | decide) (by simp only [lensC]; first | (refine ⟨by omega, ?_⟩; refine Nat.le_trans (Nat.mul_le_mul_left _ (show _ ≤ 512 by decide)) ?_; omega) | fail) ?_
    | refine AppN_of rfl rfl (by and_intros <;> rfl) (by simp only [lensC]; first | (refine ⟨by omega, ?_⟩; refine Nat.le_trans (Nat.mul_le_mul_left _ (show _ ≤ 512 by decide)) ?_; omega) | fail) ?_
    | (show False; omega)
  all_goals
    conv => whnf
    refine OutA_plain rfl rfl ?_
    first
    | rfl
    | (simp_all [okRec, inB, named, AV.sub, AV.sub.subL]; done)
    | (simp_all [okRec, inB, named, AV.sub, AV.sub.subL] <;> (intros; first | omega | fail))
    | (have q : (rising none r.Reads && decide ((r.Reads.length : Int) ≤ 8)) = false := (by assumption); rw [Bool.and_eq_false_iff] at q; rcases q with q | q <;> (unfold okRec; rw [if_pos (by assumption)]; simp only [q, Bool.and_false, Bool.false_and]; rfl))
    | (have q : IntKind.i64.wrap ((r.Reads.length : Int) + (r.Writes.length : Int)) > 0 := (by assumption); have hz4 : 0 < (r.Reads.length : Int) + (r.Writes.length : Int) := hs ▸ q; clear hs q; by_cases hz5 : (r.Reads.length : Int) = 0 <;> by_cases hz6 : (r.Writes.length : Int) = 0 <;> first | (exfalso; omega) | (simp_all [okRec, inB, named, AV.sub]; done) | (simp_all [okRec, inB, named, AV.sub] <;> (intros; omega)))
    | (have q : ¬ (IntKind.i64.wrap ((r.Reads.length : Int) + (r.Writes.length : Int)) > 0) := (by assumption); have hz0 : (r.Reads.length : Int) + (r.Writes.length : Int) ≤ 0 := hs ▸ Int.not_lt.1 q; clear hs q; have hz1 : (r.Reads.length : Int) = 0 := (by omega); have hz2 : (r.Writes.length : Int) = 0 := (by omega); simp_all [okRec, named, AV.sub]; done)
def wrote (ws : List WriteT) (key : List UInt8) : Bool := ws.any fun w => w.Key == key
def apartS (g : HeldT) (reads : List (List UInt8)) (ws : List WriteT) : Bool := !(reads.any fun k => wrote g.Writes k) && !(ws.any fun w => wrote g.Writes w.Key || g.Reads.any fun x => x == w.Key)
def kEq (key : List UInt8) (c : CellT) : Bool := c.Key == key
def lastS (l : List CellT) (key : List UInt8) : Int := match l.find? (kEq key) with | some c => (match c.Vers.getLast? with | some v => v.Time | none => 0) | none => 0
theorem idxF_bound {α : Type} {q : α → Bool} {xs : List α} (h : ¬ idxF q 0 xs < 0) : (idxF q 0 xs).toNat < xs.length := by
  obtain ⟨x, h1, _⟩ := idxF_lt (xs := xs) (k := 0) (q := q) rfl (by omega)
  exact (List.getElem?_eq_some_iff.1 h1).1
end Go.Proofs.YtgkghkcahepicaaGreat
