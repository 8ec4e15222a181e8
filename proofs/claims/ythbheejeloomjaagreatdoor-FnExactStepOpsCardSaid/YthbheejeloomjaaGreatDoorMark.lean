/-
  What the laws' markText gives.
  No condition.
-/
import Derived.Test.YthbheejeloomjaaGreatDoorM4
import Derived.Test.YthbheejeloomjaaGreatDoorProg
import Derived.KernelRfl
namespace Go.Proofs.YthbheejeloomjaaGreatDoor
open Go.Ab
set_option linter.unusedSimpArgs false
set_option maxRecDepth 20000
set_option maxHeartbeats 2000000
set_option linter.unusedVariables false

def digB (q : Int) : UInt8 := (IntKind.u8.wrap (48 + q.tmod 10)).toNat.toUInt8
theorem mk_byte {q : Int} (h : 0 ≤ q) : IntKind.u8.wrap (IntKind.i64.wrap (48 + q.tmod 10)) = (((digB q).toNat : Nat) : Int) := by
  have hq : 0 ≤ q.tmod 10 ∧ q.tmod 10 < 10 := by
    rw [Int.tmod_eq_emod_of_nonneg h]
    omega
  have hu : ∀ e : Int, 0 ≤ e → e < 256 → IntKind.u8.wrap e = e := by
    intro e h1 h2
    unfold IntKind.wrap
    simp [IntKind.bits, IntKind.signed]
    omega
  rw [i64_wrap (by omega) (by omega)]
  unfold digB
  rw [hu _ (by omega) (by omega)]
  generalize q.tmod 10 = r at hq
  obtain ⟨n, rfl⟩ : ∃ n : Nat, r = (n : Int) := ⟨r.toNat, by omega⟩
  have : (48 + (n : Int)).toNat = 48 + n := by omega
  rw [this]
  have h2 : (48 + n).toUInt8.toNat = 48 + n := by
    rw [Nat.toUInt8, UInt8.toNat_ofNat']
    omega
  rw [h2]
  omega
theorem digs_go {f : Nat} {q : Int} {out B : List UInt8} (h : digs f q out = B) (hq : q > 0) (hf : q.toNat ≤ f) : digs (f - 1) (q.tdiv 10) (digB q :: out) = B := by
  obtain ⟨f, rfl⟩ : ∃ m, f = m + 1 := ⟨f - 1, by omega⟩
  unfold digs at h
  rw [if_pos hq] at h
  exact h
theorem digs_end {f : Nat} {q : Int} {out B : List UInt8} (h : digs f q out = B) (hq : ¬ q > 0) : out = B := by
  cases f with
  | zero => unfold digs at h; exact h
  | succ f =>
    unfold digs at h
    rw [if_neg hq] at h
    exact h
theorem tdiv_ten {q : Int} (h : q > 0) : 0 ≤ q.tdiv 10 ∧ q.tdiv 10 < q := by
  rw [Int.tdiv_eq_ediv_of_nonneg (by omega)]
  omega
theorem mText_pos {k : Int} {out : List UInt8} (hk : ¬ k ≤ 0) (h : out = digs k.toNat k []) : (109 : UInt8) :: out = mText k := by
  unfold mText
  rw [if_neg hk, h]
theorem mText_neg {k : Int} (hk : k ≤ 0) : [109, 48] = mText k := by
  unfold mText
  rw [if_pos hk]
theorem c_laws_markText (k : Int) (hk : k ≤ 1152921504606846976) : PC Tryz.prog false 46 [.int .i64 k] (.str (mText k)) [] := by
  refine pc_at Tryz.func46 rfl (by kernel_rfl) 20 [.tmp 2] rfl rfl ?_
  repeat' (conv => whnf); first
 | refine nameB_true ?_
 | refine nameB_false ?_
 | refine nameB_yes (by assumption) ?_
 | refine nameB_no (by assumption) ?_
 | refine nameB_dyes (by assumption) ?_
 | refine nameB_dno (by assumption) ?_
 | (refine nameB_dec (fun h => ?_) (fun h => ?_) <;> try simp only [lensB] at h)
 | (refine nameB_cases (fun h => ?_) (fun h => ?_) <;> try simp only [nmL, lensB] at h)
 | refine splitB_true ?_
 | refine splitB_false ?_
 | (refine splitB_intro (fun h => ?_) (fun h => ?_) <;> subst h)
 | refine draw_text (by kernel_rfl) (by kernel_rfl) (by kernel_rfl) ?_
 | refine both_intro ?_ ?_
 | refine eitherB_l ?_
 | exact True.intro
 | ((refine Loop_at [] [] (Int × List UInt8 × Nat) (fun j => match j with | (q, out, f) => 0 ≤ q ∧ q.toNat ≤ f ∧ digs f q out = digs k.toNat k [] ∧ (out.length : Int) + q ≤ k) (fun j => match j with | (q, out, f) => [(0, .int .i64 q), (3, .str out)]) (fun j => match j with | (q, out, f) => []) (fun j => match j with | (q, out, f) => q.toNat) (k, [], k.toNat) ⟨by first | first | rfl | exact congrArg (AV.int .i64) (i64_wrap (by have ht := tdiv_ten (q := q) (by assumption); omega) (by have ht := tdiv_ten (q := q) (by assumption); omega)) | rfl | fail, by first | rfl | first | rfl | exact congrArg (AV.int .i64) (i64_wrap (by have ht := tdiv_ten (q := q) (by assumption); omega) (by have ht := tdiv_ten (q := q) (by assumption); omega)) | fail, trivial⟩ trivial (by (try dsimp only); first | (exact ⟨by omega, Nat.le_refl _, rfl, by simp⟩) | fail) ?_; (conv => whnf); refine side_and (side_of (by first | exact fun ⟨q, out, f⟩ => rfl | exact fun ⟨q, out, f⟩ => by simp [headOk, closedE, closedO, closedL, AV.closed, hcap.closed, hasId, AObj.box, BK.ofB])) ?_; rintro ⟨q, out, f⟩ hT; try dsimp only at hT))
 | (refine Again_of (q.tdiv 10, digB q :: out, f - 1) ⟨by first | first | rfl | exact congrArg (AV.int .i64) (i64_wrap (by have ht := tdiv_ten (q := q) (by assumption); omega) (by have ht := tdiv_ten (q := q) (by assumption); omega)) | rfl | fail, by first | rfl | first | rfl | exact congrArg (AV.int .i64) (i64_wrap (by have ht := tdiv_ten (q := q) (by assumption); omega) (by have ht := tdiv_ten (q := q) (by assumption); omega)) | fail, trivial⟩ trivial (by first | (and_intros <;> first | rfl | trivial) | fail) (by first | (and_intros <;> first | rfl | trivial) | fail) rfl rfl rfl (by (try dsimp only); first | ((have ht := tdiv_ten (q := q) (by assumption); exact ⟨ht.1, by omega, digs_go hT.2.2.1 (by assumption) hT.2.1, by simp only [List.length_cons]; omega⟩)) | fail) (show _ < _ by (try dsimp only); (have ht := tdiv_ten (q := q) (by assumption); omega)))
 | refine ix_map_at hx ?_
 | refine ix_map_at hy ?_
 | refine sl_pre (by omega) (fun _ => rfl) ?_
 | refine sl_suf (by omega) (fun _ => rfl) ?_
 | (refine ix_map2 hx (by omega) (by (try simp only [List.length_take]); omega) (fun y hy => ?_); try simp only [Int.toNat_natCast] at hy)
 | (refine ix_map (by omega) (by (try simp only [List.length_take]); omega) (fun x hx => ?_); try simp only [Int.toNat_natCast] at hx)
 | refine side_and (side_of (by first | (and_intros <;> first | exact Nat.le_of_ble_eq_true rfl | rfl | omega | (simp only [lensB, lensC]; omega) | exact bytes_ok (Nat.le_of_ble_eq_true rfl) (by omega) (by simp only [lensB, lensC]; omega) | exact bytes_okN (Nat.le_of_ble_eq_true rfl) (by simp only [lensB, lensC]; omega)) | fail)) ?_
 | refine nilB_intro (fun h => ?_) ?_
 | refine side_and (side_of (show Go.Ab.structOk _ _ = true by kernel_rfl)) ?_
 | refine side_and (side_of (map_len (fun _ => rfl))) ?_
 | refine side_and (side_of (map_one (fun _ => rfl) _)) ?_
 | refine side_and ?_ ?_
 | refine LoadK_of rfl rfl ?_
 | refine LoadD_cel rfl rfl rfl rfl ?_
 | refine LoadD_of rfl ?_
 | refine StoreD_of rfl rfl rfl ?_
 | refine AppD_of rfl (by and_intros <;> first | rfl | decide) (by simp only [lensC]; first | (refine ⟨by omega, ?_⟩; refine Nat.le_trans (Nat.mul_le_mul_left _ (show _ ≤ 512 by decide)) ?_; omega) | fail) ?_
 | refine AppN_of rfl rfl (by and_intros <;> rfl) (by simp only [lensC]; first | (refine ⟨by omega, ?_⟩; refine Nat.le_trans (Nat.mul_le_mul_left _ (show _ ≤ 512 by decide)) ?_; omega) | fail) ?_
 | refine ⟨[digB q], congrArg (fun n => [[AV.int .u8 n]]) (mk_byte hT.1), ?_⟩
 | (show False; omega)
 | fail
  all_goals
    conv => whnf
    refine OutA_plain rfl rfl ?_
    first
    | exact congrArg AV.str (mText_neg (by assumption))
    | exact congrArg AV.str (mText_pos (by assumption) (digs_end hT.2.2.1 (by assumption)))
end Go.Proofs.YthbheejeloomjaaGreatDoor
