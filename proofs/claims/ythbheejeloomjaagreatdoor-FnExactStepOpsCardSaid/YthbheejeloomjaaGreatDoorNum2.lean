/-
  Numbers read and printed by the reference.
  No condition.
-/
import Derived.Test.YthbheejeloomjaaGreatDoorBase
import Derived.Lib.ItoaNum
namespace Go.Proofs.YthbheejeloomjaaGreatDoor
open Go.Ab
set_option linter.unusedSimpArgs false
set_option maxRecDepth 20000
set_option maxHeartbeats 4000000
set_option linter.unusedVariables false

theorem inB_le' {a n b : Int} (h : inB a n b = true) : a ≤ n ∧ n ≤ b := by simpa only [inB, Bool.and_eq_true, decide_eq_true_eq] using h
theorem u8w {e : Int} : IntKind.u8.wrap e = e % 256 := by
  unfold IntKind.wrap
  simp [IntKind.bits, IntKind.signed]
def isDg (c : UInt8) : Bool := decide (48 ≤ c.toNat) && decide (c.toNat ≤ 57)
def decN (l : List UInt8) : Nat := l.foldl (fun n c => 10 * n + (c.toNat - 48)) 0
theorem decN_snoc (l : List UInt8) (c : UInt8) : decN (l ++ [c]) = 10 * decN l + (c.toNat - 48) := by unfold decN; rw [List.foldl_append]; rfl
theorem decN_lt {l : List UInt8} (h : l.all isDg = true) : decN l < 10 ^ l.length := by
  have key : ∀ (l : List UInt8) (n k : Nat), l.all isDg = true → n < 10 ^ k → l.foldl (fun n c => 10 * n + (c.toNat - 48)) n < 10 ^ (k + l.length) := by
    intro l
    induction l with
    | nil => intro n k _ h; exact h
    | cons c l ih =>
      intro n k hl h
      simp only [List.all_cons, Bool.and_eq_true] at hl
      have hc := hl.1
      unfold isDg at hc
      simp only [Bool.and_eq_true, decide_eq_true_eq] at hc
      simp only [List.foldl_cons, List.length_cons]
      have := ih (10 * n + (c.toNat - 48)) (k + 1) hl.2 (by rw [Nat.pow_succ]; omega)
      rw [show k + (l.length + 1) = k + 1 + l.length by omega]
      exact this
  have := key l 0 0 h (by decide)
  rwa [Nat.zero_add] at this
theorem getD_at {l : List UInt8} {k : Nat} (h : k < l.length) : l[k]? = some (l.getD k 0) := by
  rw [List.getD_eq_getElem?_getD, List.getElem?_eq_getElem h]; rfl
theorem take_getD {l : List UInt8} {k : Nat} (h : k < l.length) : l.take (k + 1) = l.take k ++ [l.getD k 0] := take_get (getD_at h)
def okL6 (l : List UInt8) : Bool := inB 1 l.length 6 && !(decide ((l.getD 0 0).toNat = 48) && decide (1 < l.length))
def rd6 (l : List UInt8) : Int := match okL6 l && l.all isDg with
  | true => (decN l : Int)
  | false => -1
def RdI (l : List UInt8) (k n : Nat) : Prop := n = decN (l.take k) ∧ (l.take k).all isDg = true ∧ k ≤ l.length ∧ okL6 l = true
theorem RdI.bound {l : List UInt8} {k n : Nat} (h : RdI l k n) (hk : k < l.length) : n ≤ 99999 := by
  have h1 := decN_lt h.2.1
  rw [← h.1] at h1
  have h2 := h.2.2.2
  unfold okL6 at h2
  rw [Bool.and_eq_true] at h2
  have h3 := inB_le' h2.1
  have h4 : (l.take k).length ≤ 5 := by rw [List.length_take]; omega
  have h5 := Nat.pow_le_pow_right (show 0 < 10 by omega) h4
  omega
theorem RdI.next {l : List UInt8} {k n : Nat} (h : RdI l k n) (hk : k < l.length) (h1 : ¬ ((l.getD k 0).toNat : Int) < 48) (h2 : ¬ ((l.getD k 0).toNat : Int) > 57) : RdI l (k + 1) (10 * n + ((l.getD k 0).toNat - 48)) := by
  refine ⟨?_, ?_, hk, h.2.2.2⟩
  · rw [take_getD hk, decN_snoc, ← h.1]
  · rw [take_getD hk, List.all_append, h.2.1]
    simp only [List.all_cons, List.all_nil, Bool.and_true, Bool.true_and]
    unfold isDg
    simp only [Bool.and_eq_true, decide_eq_true_eq]
    omega
theorem RdI.wrap {l : List UInt8} {k n : Nat} (h : RdI l k n) (hk : k < l.length) (h1 : ¬ ((l.getD k 0).toNat : Int) < 48) (h2 : ¬ ((l.getD k 0).toNat : Int) > 57) : IntKind.i64.wrap (IntKind.i64.wrap (10 * (n : Int)) + IntKind.i64.wrap (IntKind.u8.wrap (((l.getD k 0).toNat : Int) - 48))) = ((10 * n + ((l.getD k 0).toNat - 48) : Nat) : Int) := by
  have hb := h.bound hk
  have hu : (l.getD k 0).toNat < 256 := (l.getD k 0).toNat_lt
  rw [u8w, i64_wrap_eq, i64_wrap_eq, i64_wrap_eq]
  omega
theorem RdI.bad {l : List UInt8} {k n : Nat} (h : RdI l k n) (hk : k < l.length) (h1 : ((l.getD k 0).toNat : Int) < 48 ∨ ((l.getD k 0).toNat : Int) > 57) : rd6 l = -1 := by
  have : l.all isDg = false := by
    rw [List.all_eq_false]
    refine ⟨l.getD k 0, List.mem_of_getElem? (getD_at hk), ?_⟩
    unfold isDg
    simp only [Bool.and_eq_true, decide_eq_true_eq]
    omega
  unfold rd6
  rw [this, Bool.and_false]
theorem RdI.done {l : List UInt8} {k n : Nat} (h : RdI l k n) (hk : ¬ (k : Int) < l.length) : rd6 l = (n : Int) := by
  have hl : l.take k = l := List.take_of_length_le (by omega)
  obtain ⟨h1, h2, _, h4⟩ := h
  rw [hl] at h1 h2
  unfold rd6
  rw [h4, h2, h1]
  rfl
theorem rd6_len {l : List UInt8} (h : okL6 l = false) : rd6 l = -1 := by unfold rd6; rw [h]; rfl
theorem okL6_1 {l : List UInt8} (h : inB 1 l.length 6 = false) : okL6 l = false := by unfold okL6; rw [h]; rfl
theorem okL6_2 {l : List UInt8} (h1 : ((l.getD 0 0).toNat : Int) = 48) (h2 : (l.length : Int) > 1) : okL6 l = false := by
  unfold okL6
  rw [decide_eq_true (show (l.getD 0 0).toNat = 48 by omega), decide_eq_true (show 1 < l.length by omega)]
  simp
theorem okL6_3 {l : List UInt8} (h : inB 1 l.length 6 = true) (h1 : ¬ ((l.getD 0 0).toNat : Int) = 48 ∨ ¬ (l.length : Int) > 1) : okL6 l = true := by
  unfold okL6
  rw [h]
  rcases h1 with h1 | h1
  · rw [decide_eq_false (show ¬ (l.getD 0 0).toNat = 48 by omega)]; rfl
  · rw [decide_eq_false (show ¬ 1 < l.length by omega)]; simp
theorem c_spec_l1Read (l : List UInt8) (hl : l.length ≤ 1048576) : PC Tryz.prog false 89 [.str l] (.int .i64 (rd6 l)) [] := by
  refine pc_at Tryz.func89 rfl (by kernel_rfl) 44 [.tmp 2] rfl rfl ?_
  repeat' (conv => whnf); first
 | (refine nameB_cases (b := inB 1 (l.length : Int) 6) (fun h => ?_) (fun h => ?_) <;> (have hlen := h; try (replace hlen := inB_le' hlen)))
 | refine nameB_true ?_
 | refine nameB_false ?_
 | (refine nameB_dec (fun h => ?_) (fun h => ?_) <;> try simp only [lensB] at h)
 | refine splitB_true ?_
 | refine splitB_false ?_
 | ((refine Loop_at [0] [] (Nat × Nat) (fun j => match j with | (k, n) => RdI l k n) (fun j => match j with | (k, n) => [(4, .int .i64 (k : Nat)), (3, .int .i64 (n : Nat))]) (fun j => match j with | (k, n) => []) (fun j => match j with | (k, n) => l.length - k) (0, 0) ⟨by first | first | exact congrArg (AV.int .i64) (hT.wrap (by omega) (by assumption) (by assumption)) | exact i64_next (by omega) | rfl | fail, by first | first | exact congrArg (AV.int .i64) (hT.wrap (by omega) (by assumption) (by assumption)) | exact i64_next (by omega) | rfl | fail, trivial⟩ trivial (by (try dsimp only); first | (exact ⟨rfl, rfl, Nat.zero_le _, okL6_3 (by assumption) (by first | exact .inl (by assumption) | exact .inr (by assumption))⟩) | fail) ?_; (conv => whnf); refine side_and (side_of (by first | exact fun ⟨k, n⟩ => rfl | exact fun ⟨k, n⟩ => by simp [headOk, closedE, closedO, closedL, AV.closed, hcap.closed, hasId, AObj.box, BK.ofB])) ?_; rintro ⟨k, n⟩ hT; try dsimp only at hT))
 | (refine Again_of (k + 1, 10 * n + ((l.getD k 0).toNat - 48)) ⟨by first | rfl | exact i64_next (by omega) | first | exact congrArg (AV.int .i64) (hT.wrap (by omega) (by assumption) (by assumption)) | exact i64_next (by omega) | fail, by first | rfl | exact i64_next (by omega) | first | exact congrArg (AV.int .i64) (hT.wrap (by omega) (by assumption) (by assumption)) | exact i64_next (by omega) | fail, trivial⟩ trivial (by first | (and_intros <;> first | rfl | trivial) | fail) (by first | (and_intros <;> first | rfl | trivial) | fail) rfl rfl rfl (by (try dsimp only); first | (exact hT.next (by omega) (by assumption) (by assumption)) | fail) (show _ < _ by (try dsimp only); omega))
 | refine Call0 (c_spec_l1In ..) rfl rfl ?_
 | refine side_and (side_of (by first | (and_intros <;> first | exact Nat.le_of_ble_eq_true rfl | rfl | omega | (simp only [lensB, lensC]; omega) | exact bytes_ok (Nat.le_of_ble_eq_true rfl) (by omega) (by simp only [lensB, lensC]; omega) | exact bytes_okN (Nat.le_of_ble_eq_true rfl) (by simp only [lensB, lensC]; omega)) | fail)) ?_
 | fail
  all_goals
    conv => whnf
    refine OutA_plain rfl rfl ?_
    first
    | exact congrArg (AV.int .i64) (rd6_len (okL6_1 (by assumption))).symm
    | exact congrArg (AV.int .i64) (rd6_len (okL6_2 (by assumption) (by assumption))).symm
    | exact congrArg (AV.int .i64) (hT.bad (by omega) (by first | exact .inl (by assumption) | exact .inr (by assumption))).symm
    | exact congrArg (AV.int .i64) (hT.done (by assumption)).symm
theorem rd6_in (l : List UInt8) : -1 ≤ rd6 l ∧ rd6 l ≤ 999999 := by
  unfold rd6
  split
  · rename_i h
    rw [Bool.and_eq_true] at h
    have h1 := decN_lt h.2
    have h2 := h.1
    unfold okL6 at h2
    rw [Bool.and_eq_true] at h2
    have h3 := inB_le' h2.1
    have h5 := Nat.pow_le_pow_right (show 0 < 10 by omega) (show l.length ≤ 6 by omega)
    omega
  · omega
def negS (l : List UInt8) : Bool := decide (0 < l.length) && decide ((l.getD 0 0).toNat = 45)
def numS (l : List UInt8) : Int × Bool := match negS l with
  | true => if rd6 (l.drop 1) < 0 ∨ rd6 (l.drop 1) = 0 then (0, false) else (-(rd6 (l.drop 1)), true)
  | false => if rd6 l < 0 then (0, false) else (rd6 l, true)
theorem negS_yes {l : List UInt8} (h1 : (l.length : Int) > 0) (h2 : ((l.getD 0 0).toNat : Int) = 45) : negS l = true := by
  unfold negS
  rw [decide_eq_true (show 0 < l.length by omega), decide_eq_true (show (l.getD 0 0).toNat = 45 by omega)]; rfl
theorem negS_no {l : List UInt8} (h : ¬ (l.length : Int) > 0 ∨ ¬ ((l.getD 0 0).toNat : Int) = 45) : negS l = false := by
  unfold negS
  rcases h with h | h
  · rw [decide_eq_false (show ¬ 0 < l.length by omega)]; rfl
  · rw [decide_eq_false (show ¬ (l.getD 0 0).toNat = 45 by omega)]; simp
theorem numS_bad1 {l : List UInt8} (h : negS l = true) (h2 : rd6 (l.drop 1) < 0 ∨ rd6 (l.drop 1) = 0) : numS l = (0, false) := by unfold numS; rw [h]; simp only [if_pos h2]
theorem numS_ok1 {l : List UInt8} (h : negS l = true) (h2 : ¬ rd6 (l.drop 1) < 0) (h3 : ¬ rd6 (l.drop 1) = 0) : numS l = (-(rd6 (l.drop 1)), true) := by unfold numS; rw [h]; simp only [if_neg (show ¬ (rd6 (l.drop 1) < 0 ∨ rd6 (l.drop 1) = 0) from fun q => q.elim h2 h3)]
theorem numS_bad2 {l : List UInt8} (h : negS l = false) (h2 : rd6 l < 0) : numS l = (0, false) := by unfold numS; rw [h]; simp only [if_pos h2]
theorem numS_ok2 {l : List UInt8} (h : negS l = false) (h2 : ¬ rd6 l < 0) : numS l = (rd6 l, true) := by unfold numS; rw [h]; simp only [if_neg h2]
theorem c_spec_l5Num (l : List UInt8) (hl : l.length ≤ 1048576) : PC Tryz.prog false 64 [.str l] (.tup [.int .i64 (numS l).1, .bool (numS l).2]) [] := by
  have hb1 := rd6_in (l.drop 1)
  have hb2 := rd6_in l
  refine pc_at Tryz.func64 rfl (by kernel_rfl) 34 [.tmp 2, .tmp 3] rfl rfl ?_
  repeat' (conv => whnf); first
 | (refine nameB_dec (fun h => ?_) (fun h => ?_) <;> try simp only [lensB] at h)
 | refine splitB_true ?_
 | refine splitB_false ?_
 | refine Call0 (c_spec_l1Read l hl) rfl rfl ?_
 | refine Call0 (c_spec_l1Read (l.drop 1) (by rw [List.length_drop]; omega)) (congrArg (fun x => [AV.str x]) (by simp)) rfl ?_
 | refine side_and (side_of (by first | (and_intros <;> first | exact Nat.le_of_ble_eq_true rfl | rfl | omega | (simp only [lensB, lensC]; omega) | exact bytes_ok (Nat.le_of_ble_eq_true rfl) (by omega) (by simp only [lensB, lensC]; omega) | exact bytes_okN (Nat.le_of_ble_eq_true rfl) (by simp only [lensB, lensC]; omega)) | fail)) ?_
 | fail
  all_goals
    conv => whnf
    refine OutA_plain rfl rfl ?_
    first
    | (rw [numS_bad1 (negS_yes (by assumption) (by assumption)) (by first | exact .inl (by assumption) | exact .inr (by assumption))]; rfl)
    | (rw [numS_ok1 (negS_yes (by assumption) (by assumption)) (by assumption) (by assumption)]; exact congrArg (fun x => AV.tup [AV.int .i64 x, AV.bool true]) (by rw [i64_wrap (by omega) (by omega)]; omega))
    | (rw [numS_bad2 (negS_no (by first | exact .inl (by assumption) | exact .inr (by assumption))) (by assumption)]; rfl)
    | (rw [numS_ok2 (negS_no (by first | exact .inl (by assumption) | exact .inr (by assumption))) (by assumption)]; rfl)
theorem d1 {n : Nat} (h : (n : Int) < 10) : [[AV.int .u8 (IntKind.u8.wrap (IntKind.i64.wrap (48 + (n : Int))))]] = [UInt8.ofNat (48 + n)].map fun b => [AV.int .u8 (b.toNat : Int)] := by
  have e : IntKind.u8.wrap (IntKind.i64.wrap (48 + (n : Int))) = ((UInt8.ofNat (48 + n)).toNat : Int) := by
    rw [u8w, i64_wrap_eq, UInt8.toNat_ofNat']
    omega
  rw [e]; rfl
theorem d2 {n : Nat} (h : n ≤ 1000000000) : [[AV.int .u8 (IntKind.u8.wrap (IntKind.i64.wrap (48 + (n : Int).tmod 10)))]] = [UInt8.ofNat (48 + n % 10)].map fun b => [AV.int .u8 (b.toNat : Int)] := by
  have e : IntKind.u8.wrap (IntKind.i64.wrap (48 + (n : Int).tmod 10)) = ((UInt8.ofNat (48 + n % 10)).toNat : Int) := by
    rw [u8w, i64_wrap_eq, UInt8.toNat_ofNat', Int.tmod_eq_emod_of_nonneg (by omega)]
    omega
  rw [e]; rfl
theorem q10 {n : Nat} (h : n ≤ 1000000000) : IntKind.i64.wrap ((n : Int).tdiv 10) = ((n / 10 : Nat) : Int) := by
  rw [i64_wrap_eq, Int.tdiv_eq_ediv_of_nonneg (by omega)]
  omega
theorem dd_len : ∀ (k n : Nat), n < 10 ^ (k + 1) → (Lib.decDigits n).length ≤ k + 1
  | k, n, h => by
    rw [Lib.decDigits]
    split
    · simp
    · rename_i h10
      match k, h with
      | 0, h => exact absurd h h10
      | k + 1, h =>
        have := dd_len k (n / 10) (by rw [Nat.pow_succ] at h; omega)
        rw [List.length_append]
        simp only [List.length_cons, List.length_nil]
        omega
theorem dd_len10 {n : Nat} (h : n ≤ 1000000000) : (Lib.decDigits n).length ≤ 10 := dd_len 9 n (by omega)
theorem dd_one {n : Nat} (h : n < 10) : Lib.decDigits n = [UInt8.ofNat (48 + n)] := by rw [Lib.decDigits, dif_pos h]
theorem dd_more {n : Nat} (h : ¬ n < 10) : Lib.decDigits n = Lib.decDigits (n / 10) ++ [UInt8.ofNat (48 + n % 10)] := by
  conv => lhs; rw [Lib.decDigits, dif_neg h]
theorem c_spec_l1Num (n : Nat) : n ≤ 1000000000 → PC Tryz.prog false 90 [.int .i64 (n : Nat)] (.str (Lib.decDigits n)) [] := by
  induction n using Nat.strongRecOn with
  | ind n ih =>
    intro hn
    have hlen := dd_len10 (n := n / 10) (by omega)
    refine pc_at Tryz.func90 rfl (by kernel_rfl) 20 [.tmp 2] rfl rfl ?_
    repeat' (conv => whnf); first
 | (refine nameB_dec (fun h => ?_) (fun h => ?_) <;> try simp only [lensB] at h)
 | refine splitB_true ?_
 | refine splitB_false ?_
 | refine draw_text (by kernel_rfl) (by kernel_rfl) (by kernel_rfl) ?_
 | refine CallD0 (ih (n / 10) (by omega) (by omega)) (congrArg (fun x => [AV.int .i64 x]) (q10 hn)) rfl rfl ?_
 | refine side_and (side_of (by first | (and_intros <;> first | exact Nat.le_of_ble_eq_true rfl | rfl | omega | (simp only [lensB, lensC]; omega) | exact bytes_ok (Nat.le_of_ble_eq_true rfl) (by omega) (by simp only [lensB, lensC]; omega) | exact bytes_okN (Nat.le_of_ble_eq_true rfl) (by simp only [lensB, lensC]; omega)) | fail)) ?_
 | refine ⟨[UInt8.ofNat (48 + n)], d1 (by assumption), ?_⟩
 | refine ⟨[UInt8.ofNat (48 + n % 10)], d2 hn, ?_⟩
 | fail
    all_goals
      conv => whnf
      refine OutA_plain rfl rfl ?_
      first
      | exact congrArg AV.str (dd_one (by omega)).symm
      | exact congrArg AV.str (dd_more (by omega)).symm
theorem c_spec_l5Text (n : Int) (h0 : -1000000000 ≤ n) (h1 : n ≤ 1000000000) : PC Tryz.prog false 65 [.int .i64 n] (.str (Lib.itoa n)) [] := by
  have hlen := dd_len10 (n := n.natAbs) (by omega)
  refine pc_at Tryz.func65 rfl (by kernel_rfl) 11 [.tmp 2] rfl rfl ?_
  repeat' (conv => whnf); first
 | (refine nameB_dec (fun h => ?_) (fun h => ?_) <;> try simp only [lensB] at h)
 | refine splitB_true ?_
 | refine splitB_false ?_
 | (refine Call0 (c_spec_l1Num n.natAbs (by omega)) (congrArg (fun x => [AV.int .i64 x]) (by first | (rw [i64_wrap (by omega) (by omega)]; omega) | omega)) rfl ?_)
 | refine side_and (side_of (by first | (and_intros <;> first | exact Nat.le_of_ble_eq_true rfl | rfl | omega | (simp only [lensB, lensC]; omega) | exact bytes_ok (Nat.le_of_ble_eq_true rfl) (by omega) (by simp only [lensB, lensC]; omega) | exact bytes_okN (Nat.le_of_ble_eq_true rfl) (by simp only [lensB, lensC]; omega)) | fail)) ?_
 | fail
  all_goals
    conv => whnf
    refine OutA_plain rfl rfl ?_
    first
    | (unfold Lib.itoa; rw [if_pos (by omega)]; rfl)
    | (unfold Lib.itoa; rw [if_neg (by omega), show n.toNat = n.natAbs by omega]; rfl)
end Go.Proofs.YthbheejeloomjaaGreatDoor
