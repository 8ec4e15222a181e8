/-
  What the functions on strings and bytes give.
  No condition.
-/
import Derived.Test.YthbheejeloomjaaGreatDoorInts
namespace Go.Proofs.YthbheejeloomjaaGreatDoor
open Go.Ab
set_option linter.unusedSimpArgs false
set_option maxRecDepth 20000
set_option linter.unusedVariables false


def isLD (b : UInt8) : Bool := (decide ((b.toNat : Int) ≥ 97) && decide ((b.toNat : Int) ≤ 122)) || (decide ((b.toNat : Int) ≥ 48) && decide ((b.toNat : Int) ≤ 57))
def okB (more : List UInt8) (b : UInt8) : Bool := isLD b || more.any fun c => c == b
def okBytes (s more : List UInt8) : Bool := s.all (okB more)
def okKey (s : List UInt8) : Bool := inB 1 s.length 12 && okBytes s [46, 47]

theorem c_impl_within (n a b : Int) : PC Tryz.prog false 92 [.int .i64 n, .int .i64 a, .int .i64 b] (.bool (inB a n b)) [] := by
  refine pc_at Tryz.func92 rfl (by kernel_rfl) 15 [.tmp 6] rfl rfl ?_
  repeat' (conv => whnf); first
 | (refine nameB_dec (fun h => ?_) (fun h => ?_) <;> try simp only [lensB] at h)
 | refine splitB_true ?_
 | refine splitB_false ?_
 | fail
  all_goals
    conv => whnf
    refine OutA_plain rfl rfl ?_
    first
    | rfl
    | (simp_all [inB, named, AV.sub, AV.sub.subL]; done)
    | (simp_all [inB, named, AV.sub, AV.sub.subL] <;> omega)
theorem c_impl_isLowerOrDigit (b : UInt8) : PC Tryz.prog false 107 [.int .u8 (b.toNat : Int)] (.bool (isLD b)) [] := by
  refine pc_at Tryz.func107 rfl (by kernel_rfl) 17 [.tmp 2] rfl rfl ?_
  repeat' (conv => whnf); first
 | (refine nameB_dec (fun h => ?_) (fun h => ?_) <;> try simp only [lensB] at h)
 | refine splitB_true ?_
 | refine splitB_false ?_
 | fail
  all_goals
    conv => whnf
    refine OutA_plain rfl rfl ?_
    first
    | rfl
    | (simp_all [isLD, named, AV.sub, AV.sub.subL]; done)
    | (simp_all [isLD, named, AV.sub, AV.sub.subL] <;> omega)
theorem c_internal_bytealg_IndexByteString (s : List UInt8) (b : UInt8) : PC Tryz.prog false 125 [.str s, .int .u8 (b.toNat : Int)] (.int .i64 (byteIdx s b)) [] :=
  pc_indexByte Tryz.func125 (by kernel_rfl) (by kernel_rfl) (by kernel_rfl) (by kernel_rfl) s b
theorem c_internal_stringslite_IndexByte (s : List UInt8) (b : UInt8) : PC Tryz.prog false 116 [.str s, .int .u8 (b.toNat : Int)] (.int .i64 (byteIdx s b)) [] := by
  refine pc_at Tryz.func116 rfl (by kernel_rfl) 8 [.tmp 4] rfl rfl ?_
  repeat' (conv => whnf); first
 | refine Call0 (c_internal_bytealg_IndexByteString ..) rfl rfl ?_
 | fail
  all_goals
    conv => whnf
    refine OutA_plain rfl rfl ?_
    first
    | rfl
    | (simp_all [named, AV.sub, AV.sub.subL]; done)
    | (simp_all [named, AV.sub, AV.sub.subL] <;> omega)
theorem c_strings_IndexByte (s : List UInt8) (b : UInt8) : PC Tryz.prog false 108 [.str s, .int .u8 (b.toNat : Int)] (.int .i64 (byteIdx s b)) [] := by
  refine pc_at Tryz.func108 rfl (by kernel_rfl) 8 [.tmp 4] rfl rfl ?_
  repeat' (conv => whnf); first
 | refine Call0 (c_internal_stringslite_IndexByte ..) rfl rfl ?_
 | fail
  all_goals
    conv => whnf
    refine OutA_plain rfl rfl ?_
    first
    | rfl
    | (simp_all [named, AV.sub, AV.sub.subL]; done)
    | (simp_all [named, AV.sub, AV.sub.subL] <;> omega)
theorem okBytes_at {s more : List UInt8} {k : Nat} {B : Bool} (h : okBytes (s.drop k) more = B) (hk : k < s.length) : (okB more (s.getD k 0) && okBytes (s.drop (k + 1)) more) = B := by
  rw [drop_getD (d := 0) hk] at h
  exact h
theorem okB_1 {more : List UInt8} {b : UInt8} (h : isLD b = true) : okB more b = true := by simp only [okB, h, Bool.true_or]
theorem okB_2 {more : List UInt8} {b : UInt8} (h : isLD b = false) (h2 : byteIdx more b < 0) : okB more b = false := by
  simp only [okB, h, Bool.false_or]
  exact byteIdx_neg.1 h2
theorem okB_3 {more : List UInt8} {b : UInt8} (h2 : ¬ byteIdx more b < 0) : okB more b = true := by
  unfold okB
  cases h : isLD b with
  | true => rfl
  | false =>
    rw [byteIdx_neg] at h2
    simpa using h2
theorem okBytes_end {s more : List UInt8} {k : Nat} {B : Bool} (h : okBytes (s.drop k) more = B) (hk : ¬ k < s.length) : B = true := by
  rw [List.drop_eq_nil_of_le (by omega)] at h
  exact h.symm
theorem c_impl_hasBytes (s more : List UInt8) (hs : s.length ≤ 9223372036854775807) : PC Tryz.prog false 96 [.str s, .str more] (.bool (okBytes s more)) [] := by
  refine pc_at Tryz.func96 rfl (by kernel_rfl) 25 [.tmp 4] rfl rfl ?_
  repeat' (conv => whnf); first
 | refine nameB_true ?_
 | refine nameB_false ?_
 | (refine nameB_dec (fun h => ?_) (fun h => ?_) <;> try simp only [lensB] at h)
 | (refine nameB_cases (fun h => ?_) (fun h => ?_) <;> try simp only [nmL, lensB] at h)
 | refine splitB_true ?_
 | refine splitB_false ?_
 | ((refine Loop_at [0, 1, 7] [] (Nat) (fun k => okBytes (s.drop k) more = okBytes s more ∧ k ≤ s.length) (fun k => [(8, .int .i64 (k : Nat))]) (fun k => []) (fun k => s.length - k) 0 ⟨by first | (simp_all <;> fail) | rfl | fail, trivial⟩ trivial (by (try dsimp only); first | trivial | (refine ⟨?_, by omega⟩; simp <;> fail) | (simp <;> fail) | fail) ?_; (conv => whnf); refine side_and (side_of (by first | exact fun k => rfl | exact fun k => by simp [headOk, closedE, closedO, closedL, AV.closed, hcap.closed, hasId, AObj.box, BK.ofB])) ?_; rintro k hT; try dsimp only at hT))
 | (refine Again_of (k + 1) ⟨by first | rfl | exact i64_next (by omega) | (simp_all <;> fail) | fail, trivial⟩ trivial (by first | (and_intros <;> first | rfl | trivial) | fail) (by first | (and_intros <;> first | rfl | trivial) | fail) rfl rfl rfl (by (try dsimp only); first | ((have hg := okBytes_at hT.1 (by omega); refine ⟨?_, by omega⟩; first | (rw [okB_1 (by assumption)] at hg; exact hg) | (rw [okB_3 (by assumption)] at hg; exact hg))) | fail) (show _ < _ by (try dsimp only); omega))
 | refine Call0 (c_impl_isLowerOrDigit ..) rfl rfl ?_
 | refine Call0 (c_strings_IndexByte ..) rfl rfl ?_
 | refine side_and (side_of (by first | (and_intros <;> first | exact Nat.le_of_ble_eq_true rfl | rfl | omega | (simp only [lensB, lensC]; omega) | exact bytes_ok (Nat.le_of_ble_eq_true rfl) (by omega) (by simp only [lensB, lensC]; omega) | exact bytes_okN (Nat.le_of_ble_eq_true rfl) (by simp only [lensB, lensC]; omega)) | fail)) ?_
 | fail
  all_goals
    conv => whnf
    refine OutA_plain rfl rfl ?_
    first
    | (have hg := okBytes_at hT.1 (by omega); rw [okB_2 (by assumption) (by assumption)] at hg; exact congrArg AV.bool hg)
    | exact congrArg AV.bool (okBytes_end hT.1 (by omega)).symm
theorem okB_at {more : List UInt8} {b : UInt8} {ok B : Bool} {i : Nat} (h : (ok || (more.drop i).any fun c => c == b) = B) (hk : i < more.length) : ((ok || more.getD i 0 == b) || (more.drop (i + 1)).any fun c => c == b) = B := by
  rw [drop_getD (d := 0) hk] at h
  rw [← h, List.any_cons, Bool.or_assoc]
theorem okB_end {more : List UInt8} {b : UInt8} {ok B : Bool} {i : Nat} (h : (ok || (more.drop i).any fun c => c == b) = B) (hk : ¬ i < more.length) : ok = B := by
  rw [List.drop_eq_nil_of_le (by omega)] at h
  simpa using h
theorem isLD_of {b : UInt8} {x : Bool} (h : x = isLD b) (more : List UInt8) : (x || (more.drop 0).any fun c => c == b) = okB more b := by
  rw [h]
  rfl
theorem isLD_yes {b : UInt8} (h : ((b.toNat : Int) ≥ 97 ∧ (b.toNat : Int) ≤ 122) ∨ ((b.toNat : Int) ≥ 48 ∧ (b.toNat : Int) ≤ 57)) : true = isLD b := by
  have : isLD b = true := by simpa only [isLD, Bool.or_eq_true, Bool.and_eq_true, decide_eq_true_eq] using h
  exact this.symm
theorem isLD_no {b : UInt8} (h : ¬ (((b.toNat : Int) ≥ 97 ∧ (b.toNat : Int) ≤ 122) ∨ ((b.toNat : Int) ≥ 48 ∧ (b.toNat : Int) ≤ 57))) : false = isLD b := by
  cases hb : isLD b with
  | false => rfl
  | true => exact absurd (by simpa only [isLD, Bool.or_eq_true, Bool.and_eq_true, decide_eq_true_eq] using hb) h
theorem okB_hit {a b : UInt8} {ok : Bool} (h : b = a) : (ok || a == b) = true := by simp [h]
theorem okB_mis {a b : UInt8} {ok : Bool} (h : ¬ b = a) : (ok || a == b) = ok := by
  have : (a == b) = false := by simpa using fun e => h e.symm
  simp [this]
theorem c_spec_l3Bytes (s more : List UInt8) (hs : s.length ≤ 9223372036854775807) (hm : more.length ≤ 9223372036854775807) : PC Tryz.prog false 88 [.str s, .str more] (.bool (okBytes s more)) [] := by
  refine pc_at Tryz.func88 rfl (by kernel_rfl) 54 [.tmp 4] rfl rfl ?_
  repeat' (conv => whnf); first
 | (refine nameB_dec (fun h => ?_) (fun h => ?_) <;> try simp only [lensB] at h)
 | (refine nameB_cases (fun h => ?_) (fun h => ?_) <;> try simp only [nmL, lensB] at h)
 | refine splitB_true ?_
 | refine splitB_false ?_
 | (refine splitB_intro (fun h => ?_) (fun h => ?_) <;> subst h)
 | refine draw_text (by kernel_rfl) (by kernel_rfl) (by kernel_rfl) ?_
 | (refine Loop_at [0, 1] [] (Nat) (fun k => okBytes (s.drop k) more = okBytes s more ∧ k ≤ s.length) (fun k => [(5, .int .i64 (k : Nat))]) (fun k => []) (fun k => s.length - k) 0 ⟨by first | (simp_all <;> fail) | rfl | fail, trivial⟩ trivial (by (try dsimp only); first | trivial | (refine ⟨?_, by omega⟩; simp <;> fail) | (simp <;> fail) | fail) ?_; (conv => whnf); refine side_and (side_of (by first | exact fun k => rfl | exact fun k => by simp [headOk, closedE, closedO, closedL, AV.closed, hcap.closed, hasId, AObj.box, BK.ofB])) ?_; rintro k hT; try dsimp only at hT)
 | (refine Loop_at [0, 1, 5] [] (Nat × Bool) (fun j => match j with | (i, ok) => (ok || (more.drop i).any fun c => c == s.getD k 0) = okB more (s.getD k 0) ∧ i ≤ more.length) (fun j => match j with | (i, ok) => [(7, .int .i64 (i : Nat)), (6, .bool ok)]) (fun j => match j with | (i, ok) => []) (fun j => match j with | (i, ok) => more.length - i) (0, _) ⟨by first | (simp_all <;> fail) | rfl | fail, rfl, trivial⟩ trivial (by (try dsimp only); first | (first | exact ⟨isLD_of (isLD_yes (by omega)) more, by omega⟩ | exact ⟨isLD_of (isLD_no (by omega)) more, by omega⟩) | fail) ?_; (conv => whnf); refine side_and (side_of (by first | exact fun ⟨i, ok⟩ => rfl | exact fun ⟨i, ok⟩ => by simp [headOk, closedE, closedO, closedL, AV.closed, hcap.closed, hasId, AObj.box, BK.ofB])) ?_; rintro ⟨i, ok⟩ hI; try dsimp only at hI)
 | refine Again_of (k + 1) ⟨by first | rfl | exact i64_next (by omega) | (simp_all <;> fail) | fail, trivial⟩ trivial (by first | (and_intros <;> first | rfl | trivial) | fail) (by first | (and_intros <;> first | rfl | trivial) | fail) rfl rfl rfl (by (try dsimp only); first | ((have hg := okBytes_at hT.1 (by omega); rw [← okB_end hI.1 (by omega), show ok = true by assumption] at hg; exact ⟨hg, by omega⟩)) | fail) (show _ < _ by (try dsimp only); omega)
 | refine Again_of (i + 1, _) ⟨by first | rfl | exact i64_next (by omega) | (simp_all <;> fail) | fail, rfl, trivial⟩ trivial (by first | (and_intros <;> first | rfl | trivial) | fail) (by first | (and_intros <;> first | rfl | trivial) | fail) rfl rfl rfl (by (try dsimp only); first | ((have hg := okB_at hI.1 (by omega); refine ⟨?_, by omega⟩; first | (rw [okB_hit (by assumption)] at hg; exact hg) | (rw [okB_mis (by assumption)] at hg; exact hg) | (simpa using hg))) | fail) (show _ < _ by (try dsimp only); omega)
 | refine side_and (side_of (by first | (and_intros <;> first | exact Nat.le_of_ble_eq_true rfl | rfl | omega | (simp only [lensB, lensC]; omega) | exact bytes_ok (Nat.le_of_ble_eq_true rfl) (by omega) (by simp only [lensB, lensC]; omega) | exact bytes_okN (Nat.le_of_ble_eq_true rfl) (by simp only [lensB, lensC]; omega)) | fail)) ?_
 | fail
  all_goals
    conv => whnf
    refine OutA_plain rfl rfl ?_
    first
    | (have hg := okBytes_at hT.1 (by omega); rw [← okB_end hI.1 (by omega), show ok = false by assumption] at hg; exact congrArg AV.bool hg)
    | exact congrArg AV.bool (okBytes_end hT.1 (by omega)).symm
theorem c_impl_GoodKey (s : List UInt8) (hs : s.length ≤ 9223372036854775807) : PC Tryz.prog false 69 [.str s] (.bool (okKey s)) [] := by
  refine pc_at Tryz.func69 rfl (by kernel_rfl) 10 [.tmp 2] rfl rfl ?_
  repeat' (conv => whnf); first
 | (refine nameB_cases (fun h => ?_) (fun h => ?_) <;> try simp only [nmL, lensB] at h)
 | refine splitB_true ?_
 | refine splitB_false ?_
 | refine Call0 (c_impl_within ..) rfl rfl ?_
 | refine Call0 (c_impl_hasBytes s _ hs) rfl rfl ?_
 | fail
  all_goals
    conv => whnf
    refine OutA_plain rfl rfl ?_
    first
    | rfl
    | (simp_all [okKey, named, AV.sub, AV.sub.subL]; done)
    | (simp_all [okKey, named, AV.sub, AV.sub.subL] <;> omega)
theorem c_spec_l3Key (s : List UInt8) (hs : s.length ≤ 9223372036854775807) : PC Tryz.prog false 59 [.str s] (.bool (okKey s)) [] := by
  refine pc_at Tryz.func59 rfl (by kernel_rfl) 10 [.tmp 2] rfl rfl ?_
  repeat' (conv => whnf); first
 | (refine nameB_cases (fun h => ?_) (fun h => ?_) <;> try simp only [nmL, lensB] at h)
 | refine splitB_true ?_
 | refine splitB_false ?_
 | refine Call0 (c_spec_l1In ..) rfl rfl ?_
 | refine Call0 (c_spec_l3Bytes s _ hs (by simp)) rfl rfl ?_
 | fail
  all_goals
    conv => whnf
    refine OutA_plain rfl rfl ?_
    first
    | rfl
    | (simp_all [okKey, named, AV.sub, AV.sub.subL]; done)
    | (simp_all [okKey, named, AV.sub, AV.sub.subL] <;> omega)
end Go.Proofs.YthbheejeloomjaaGreatDoor
