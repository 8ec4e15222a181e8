/-
  What the functions on strings and bytes give.
  No condition.
-/
import Derived.Test.YtcdlapjpnenkdaaInts
namespace Go.Proofs.Ytcdlapjpnenkdaa
open Go.Ab
set_option linter.unusedSimpArgs false
set_option maxRecDepth 20000
set_option linter.unusedVariables false


def isLD (b : UInt8) : Bool := (decide ((b.toNat : Int) ≥ 97) && decide ((b.toNat : Int) ≤ 122)) || (decide ((b.toNat : Int) ≥ 48) && decide ((b.toNat : Int) ≤ 57))
def okB (more : List UInt8) (b : UInt8) : Bool := isLD b || more.any fun c => c == b
def okBytes (s more : List UInt8) : Bool := s.all (okB more)
def okKey (s : List UInt8) : Bool := inB 1 s.length 12 && okBytes s [46, 47]

theorem c_impl_within (n a b : Int) : PC Try.prog false 67 [.int .i64 n, .int .i64 a, .int .i64 b] (.bool (inB a n b)) [] := by
  refine pc_at Try.func67 rfl (by kernel_rfl) 15 [.tmp 6] rfl rfl ?_
  repeat' (conv => whnf); first
    | refine nameB_true ?_
    | refine nameB_false ?_
    | refine nameB_yes (by assumption) ?_
    | refine nameB_no (by assumption) ?_
    | refine nameB_dyes (by assumption) ?_
    | refine nameB_dno (by assumption) ?_
    | (refine nameB_dec (fun h => ?_) (fun h => ?_) <;> try simp only [List.length_map, List.length_take, List.length_append, List.length_drop, markList_length, Int.toNat_natCast, fact_byte] at h)
    | (refine nameB_cases (fun h => ?_) (fun h => ?_) <;> try simp only [bne_iff_ne, ne_eq, bne_eq_false_iff_eq, beq_iff_eq, beq_eq_false_iff_ne, Bool.not_eq_true', Bool.not_eq_false', Bool.or_eq_true, Bool.or_eq_false_iff, List.length_map, List.length_take, List.length_append, List.length_drop, markList_length, Int.toNat_natCast, fact_byte] at h)
    | refine splitB_true ?_
    | refine splitB_false ?_
    | (refine splitB_intro (fun h => ?_) (fun h => ?_) <;> subst h)
    | refine ⟨⟨by kernel_rfl, by kernel_rfl, by kernel_rfl⟩, ?_⟩
    | refine ix_map_at hx ?_
    | refine ix_map_at hy ?_
    | refine sl_pre (by omega) (fun _ => rfl) ?_
    | refine sl_suf (by omega) (fun _ => rfl) ?_
    | (refine ix_map2 hx (by omega) (by (try simp only [List.length_take]); omega) (fun y hy => ?_); try simp only [Int.toNat_natCast] at hy)
    | (refine ix_map (by omega) (by (try simp only [List.length_take]); omega) (fun x hx => ?_); try simp only [Int.toNat_natCast] at hx)
    | refine side_and (side_of (by first | (and_intros <;> first | exact Nat.le_of_ble_eq_true rfl | rfl | omega | (simp only [List.length_map, List.length_append, List.length_replicate, List.length_take, List.length_cons, List.length_nil, List.length_drop, List.length_set, markList_length]; omega) | exact bytes_ok (Nat.le_of_ble_eq_true rfl) (by omega) (by simp only [List.length_map, List.length_append, List.length_replicate, List.length_take, List.length_cons, List.length_nil, List.length_drop, List.length_set, markList_length]; omega) | exact bytes_okN (Nat.le_of_ble_eq_true rfl) (by simp only [List.length_map, List.length_append, List.length_replicate, List.length_take, List.length_cons, List.length_nil, List.length_drop, List.length_set, markList_length]; omega)) | fail)) ?_
    | refine nilB_intro (fun h => ?_) ?_
    | refine side_and (side_of (map_len (fun _ => rfl))) ?_
    | refine side_and (side_of (map_one (fun _ => rfl) _)) ?_
    | refine side_and ?_ ?_
    | refine LoadK_of rfl rfl ?_
    | (show False; omega)
  all_goals
    conv => whnf
    refine OutA_plain rfl rfl ?_
    first
    | rfl
    | (simp_all [inB, named, AV.sub, AV.sub.subL]; done)
    | (simp_all [inB, named, AV.sub, AV.sub.subL] <;> omega)
theorem okBytes_at {s more : List UInt8} {k : Nat} {B : Bool} (h : okBytes (s.drop k) more = B) (hk : k < s.length) : (okB more (s.getD k 0) && okBytes (s.drop (k + 1)) more) = B := by
  rw [drop_getD (d := 0) hk] at h
  exact h
theorem okB_1 {more : List UInt8} {b : UInt8} (h : isLD b = true) : okB more b = true := by simp only [okB, h, Bool.true_or]
theorem okB_2 {more : List UInt8} {b : UInt8} (h : isLD b = false) (h2 : byteIdx more b < 0) : okB more b = false := by
  simp only [okB, h, Bool.false_or]
  exact byteIdx_neg.1 h2
theorem okB_3 {more : List UInt8} {b : UInt8} (h2 : ¬ byteIdx more b < 0) : okB more b = true := by
  unfold okB
  cases h : isLD b with
  | true => rfl
  | false =>
    rw [byteIdx_neg] at h2
    simpa using h2
theorem okBytes_end {s more : List UInt8} {k : Nat} {B : Bool} (h : okBytes (s.drop k) more = B) (hk : ¬ k < s.length) : B = true := by
  rw [List.drop_eq_nil_of_le (by omega)] at h
  exact h.symm
theorem okB_at {more : List UInt8} {b : UInt8} {ok B : Bool} {i : Nat} (h : (ok || (more.drop i).any fun c => c == b) = B) (hk : i < more.length) : ((ok || more.getD i 0 == b) || (more.drop (i + 1)).any fun c => c == b) = B := by
  rw [drop_getD (d := 0) hk] at h
  rw [← h, List.any_cons, Bool.or_assoc]
theorem okB_end {more : List UInt8} {b : UInt8} {ok B : Bool} {i : Nat} (h : (ok || (more.drop i).any fun c => c == b) = B) (hk : ¬ i < more.length) : ok = B := by
  rw [List.drop_eq_nil_of_le (by omega)] at h
  simpa using h
theorem isLD_of {b : UInt8} {x : Bool} (h : x = isLD b) (more : List UInt8) : (x || (more.drop 0).any fun c => c == b) = okB more b := by
  rw [h]
  rfl
theorem isLD_yes {b : UInt8} (h : ((b.toNat : Int) ≥ 97 ∧ (b.toNat : Int) ≤ 122) ∨ ((b.toNat : Int) ≥ 48 ∧ (b.toNat : Int) ≤ 57)) : true = isLD b := by
  have : isLD b = true := by simpa only [isLD, Bool.or_eq_true, Bool.and_eq_true, decide_eq_true_eq] using h
  exact this.symm
theorem isLD_no {b : UInt8} (h : ¬ (((b.toNat : Int) ≥ 97 ∧ (b.toNat : Int) ≤ 122) ∨ ((b.toNat : Int) ≥ 48 ∧ (b.toNat : Int) ≤ 57))) : false = isLD b := by
  cases hb : isLD b with
  | false => rfl
  | true => exact absurd (by simpa only [isLD, Bool.or_eq_true, Bool.and_eq_true, decide_eq_true_eq] using hb) h
theorem okB_hit {a b : UInt8} {ok : Bool} (h : b = a) : (ok || a == b) = true := by simp [h]
theorem okB_mis {a b : UInt8} {ok : Bool} (h : ¬ b = a) : (ok || a == b) = ok := by
  have : (a == b) = false := by simpa using fun e => h e.symm
  simp [this]
end Go.Proofs.Ytcdlapjpnenkdaa
