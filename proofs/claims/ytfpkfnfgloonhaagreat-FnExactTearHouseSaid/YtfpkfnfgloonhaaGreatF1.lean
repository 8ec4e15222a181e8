/- Part 1 of one proof: lemmas and contracts, laid one behind the other. No condition. -/
import Derived.Test.YtfpkfnfgloonhaaGreatM4
import Derived.Test.YtfpkfnfgloonhaaGreatProg
import Derived.KernelRfl
import Derived.Test.YtfpkfnfgloonhaaGreatAb31
namespace Go.Proofs.YtfpkfnfgloonhaaGreat
open Go.Ab
set_option linter.unusedSimpArgs false
set_option maxRecDepth 20000
set_option maxHeartbeats 4000000
set_option linter.unusedVariables false

def digB (q : Int) : UInt8 := (IntKind.u8.wrap (48 + q.tmod 10)).toNat.toUInt8
theorem mk_byte {q : Int} (h : 0 ≤ q) : IntKind.u8.wrap (IntKind.i64.wrap (48 + q.tmod 10)) = (((digB q).toNat : Nat) : Int) := by
  have hq : 0 ≤ q.tmod 10 ∧ q.tmod 10 < 10 := by
    rw [Int.tmod_eq_emod_of_nonneg h]
    omega
  have hu : ∀ e : Int, 0 ≤ e → e < 256 → IntKind.u8.wrap e = e := by
    intro e h1 h2
    unfold IntKind.wrap
    simp [IntKind.bits, IntKind.signed]
    omega
  rw [i64_wrap (by omega) (by omega)]
  unfold digB
  rw [hu _ (by omega) (by omega)]
  generalize q.tmod 10 = r at hq
  obtain ⟨n, rfl⟩ : ∃ n : Nat, r = (n : Int) := ⟨r.toNat, by omega⟩
  have : (48 + (n : Int)).toNat = 48 + n := by omega
  rw [this]
  have h2 : (48 + n).toUInt8.toNat = 48 + n := by
    rw [Nat.toUInt8, UInt8.toNat_ofNat']
    omega
  rw [h2]
  omega
theorem digs_go {f : Nat} {q : Int} {out B : List UInt8} (h : digs f q out = B) (hq : q > 0) (hf : q.toNat ≤ f) : digs (f - 1) (q.tdiv 10) (digB q :: out) = B := by
  obtain ⟨f, rfl⟩ : ∃ m, f = m + 1 := ⟨f - 1, by omega⟩
  unfold digs at h
  rw [if_pos hq] at h
  exact h
theorem digs_end {f : Nat} {q : Int} {out B : List UInt8} (h : digs f q out = B) (hq : ¬ q > 0) : out = B := by
  cases f with
  | zero => unfold digs at h; exact h
  | succ f =>
    unfold digs at h
    rw [if_neg hq] at h
    exact h
theorem tdiv_ten {q : Int} (h : q > 0) : 0 ≤ q.tdiv 10 ∧ q.tdiv 10 < q := by
  rw [Int.tdiv_eq_ediv_of_nonneg (by omega)]
  omega
theorem mText_pos {k : Int} {out : List UInt8} (hk : ¬ k ≤ 0) (h : out = digs k.toNat k []) : (109 : UInt8) :: out = mText k := by
  unfold mText
  rw [if_neg hk, h]
theorem mText_neg {k : Int} (hk : k ≤ 0) : [109, 48] = mText k := by
  unfold mText
  rw [if_pos hk]
theorem c_laws_markText (k : Int) (hk : k ≤ 1152921504606846976) : PC Tryz.prog false 103 [.int .i64 k] (.str (mText k)) [] := by
  refine pc_at Tryz.func103 rfl (by kernel_rfl) 20 [.tmp 2] rfl rfl ?_
  repeat' (conv => whnf); first
 | (refine nameB_dec (fun h => ?_) (fun h => ?_) <;> try simp only [lensB] at h)
 | refine splitB_true ?_
 | refine splitB_false ?_
 | ((refine Loop_at [] [] (Int × List UInt8 × Nat) (fun j => match j with | (q, out, f) => 0 ≤ q ∧ q.toNat ≤ f ∧ digs f q out = digs k.toNat k [] ∧ (out.length : Int) + q ≤ k) (fun j => match j with | (q, out, f) => [(0, .int .i64 q), (3, .str out)]) (fun j => match j with | (q, out, f) => []) (fun j => match j with | (q, out, f) => q.toNat) (k, [], k.toNat) ⟨by first | first | rfl | exact congrArg (AV.int .i64) (i64_wrap (by have ht := tdiv_ten (q := q) (by assumption); omega) (by have ht := tdiv_ten (q := q) (by assumption); omega)) | rfl | fail, by first | rfl | first | rfl | exact congrArg (AV.int .i64) (i64_wrap (by have ht := tdiv_ten (q := q) (by assumption); omega) (by have ht := tdiv_ten (q := q) (by assumption); omega)) | fail, trivial⟩ trivial (by (try dsimp only); first | (exact ⟨by omega, Nat.le_refl _, rfl, by simp⟩) | fail) ?_; (conv => whnf); refine side_and (side_of (by first | exact fun ⟨q, out, f⟩ => rfl | exact fun ⟨q, out, f⟩ => by simp [headOk, closedE, closedO, closedL, AV.closed, hcap.closed, hasId, AObj.box, BK.ofB])) ?_; rintro ⟨q, out, f⟩ hT; try dsimp only at hT))
 | (refine Again_of (q.tdiv 10, digB q :: out, f - 1) ⟨by first | first | rfl | exact congrArg (AV.int .i64) (i64_wrap (by have ht := tdiv_ten (q := q) (by assumption); omega) (by have ht := tdiv_ten (q := q) (by assumption); omega)) | rfl | fail, by first | rfl | first | rfl | exact congrArg (AV.int .i64) (i64_wrap (by have ht := tdiv_ten (q := q) (by assumption); omega) (by have ht := tdiv_ten (q := q) (by assumption); omega)) | fail, trivial⟩ trivial (by first | (and_intros <;> first | rfl | trivial) | fail) (by first | (and_intros <;> first | rfl | trivial) | fail) rfl rfl rfl (by (try dsimp only); first | ((have ht := tdiv_ten (q := q) (by assumption); exact ⟨ht.1, by omega, digs_go hT.2.2.1 (by assumption) hT.2.1, by simp only [List.length_cons]; omega⟩)) | fail) (show _ < _ by (try dsimp only); (have ht := tdiv_ten (q := q) (by assumption); omega)))
 | refine side_and (side_of (by first | (and_intros <;> first | exact Nat.le_of_ble_eq_true rfl | rfl | omega | (simp only [lensB, lensC]; omega) | exact bytes_ok (Nat.le_of_ble_eq_true rfl) (by omega) (by simp only [lensB, lensC]; omega) | exact bytes_okN (Nat.le_of_ble_eq_true rfl) (by simp only [lensB, lensC]; omega)) | fail)) ?_
 | refine ⟨[digB q], congrArg (fun n => [[AV.int .u8 n]]) (mk_byte hT.1), ?_⟩
 | fail
  all_goals
    conv => whnf
    refine OutA_plain rfl rfl ?_
    first
    | exact congrArg AV.str (mText_neg (by assumption))
    | exact congrArg AV.str (mText_pos (by assumption) (digs_end hT.2.2.1 (by assumption)))
theorem c_laws_szStringS (xs : List (List UInt8)) (n : Int) (h0 : 0 ≤ n) (h1 : n ≤ 1048576) (hok : (okL okS) xs) : PC Tryz.prog false 75 [.sl (xs.map strC), .int .i64 n] (.int .i64 (szN n (wL List.length xs))) [] := by
  have hl := hok.1
  refine pc_at Tryz.func75 rfl (by kernel_rfl) 28 [.tmp 4] rfl rfl ?_
  repeat' (conv => whnf); first
 | (refine nameB_dec (fun h => ?_) (fun h => ?_) <;> try simp only [lensB] at h)
 | refine splitB_true ?_
 | refine splitB_false ?_
 | ((refine Loop_at [0] [] (Nat × Int) (fun j => match j with | (k, m) => (0 ≤ m ∧ m ≤ 1048576) ∧ m - (((xs.drop k).map List.length).sum : Nat) = n - (wL List.length xs : Nat) ∧ k ≤ xs.length) (fun j => match j with | (k, m) => [(1, .int .i64 m), (5, .int .i64 (k : Nat))]) (fun j => match j with | (k, m) => []) (fun j => match j with | (k, m) => xs.length - k) (0, _) ⟨rfl, by first | (simp_all <;> fail) | rfl | fail, trivial⟩ trivial (by (try dsimp only); first | ((simp only [i64_wrap_eq, List.length_map, wL, List.drop_zero] at *; omega)) | fail) ?_; (conv => whnf); refine side_and (side_of (by first | exact fun ⟨k, m⟩ => rfl | exact fun ⟨k, m⟩ => by simp [headOk, closedE, closedO, closedL, AV.closed, hcap.closed, hasId, AObj.box, BK.ofB])) ?_; rintro ⟨k, m⟩ hT; try dsimp only at hT))
 | (refine Again_of (k + 1, _) ⟨rfl, by first | rfl | exact i64_next (by omega) | (simp_all <;> fail) | fail, trivial⟩ trivial (by first | (and_intros <;> first | rfl | trivial) | fail) (by first | (and_intros <;> first | rfl | trivial) | fail) rfl rfl rfl (by (try dsimp only); first | ((have hs := sum_drop List.length hx; have hb : List.length x ≤ 9223372036854775807 := hok.2 x (List.mem_of_getElem? hx); simp only [i64_wrap_eq] at *; omega)) | fail) (show _ < _ by (try dsimp only); omega))
 | (refine ix_map (by omega) (by (try simp only [List.length_take]); omega) (fun x hx => ?_); try simp only [Int.toNat_natCast] at hx)
 | refine side_and (side_of (by first | exact Nat.le_of_ble_eq_true rfl | exact rfl | omega | fail)) ?_
 | fail
  all_goals
    conv => whnf
    refine OutA_plain rfl rfl ?_
    refine congrArg (AV.int .i64) ?_
    first
    | (have hs := sum_drop List.length hx; have hb : List.length x ≤ 9223372036854775807 := hok.2 x (List.mem_of_getElem? hx); simp only [i64_wrap_eq] at *; exact szN_neg (by omega))
    | (have hs := sum_end List.length (xs := xs) (k := k) (by omega); exact szN_pos (by omega) (by omega))
    | (have hs : wL List.length xs = xs.length + (xs.map List.length).sum := rfl; simp only [i64_wrap_eq] at *; exact szN_neg (by omega))
theorem c_laws_toStringS (xs : List (List UInt8)) (hw : wL List.length xs ≤ 1048576) : PC Tryz.prog false 83 [.sl (xs.map strC)] (.own 0) [⟨.deep [.leaf], 9, 1, xs.map strC⟩] := by
  have hl : xs.length ≤ 1048576 := Nat.le_trans wL_len hw
  refine pc_at Tryz.func83 rfl (by kernel_rfl) 22 [.tmp 2] rfl rfl ?_
  repeat' (conv => whnf); first
 | (refine nameB_dec (fun h => ?_) (fun h => ?_) <;> try simp only [lensB] at h)
 | refine splitB_true ?_
 | refine splitB_false ?_
 | ((refine Loop_prom [(4128, [.leaf])] ⟨⟨_, _, _, rfl, by first | exact prom_nil | exact prom_rep rfl | exact prom_map (fun _ => rfl) | exact prom_one rfl⟩, trivial⟩ ?_; refine Loop_at [0, 3] [] (Nat) (fun k => True ∧ k ≤ xs.length) (fun k => [(4, .int .i64 (k : Nat))]) (fun k => [(4128, ⟨.deep [.leaf], 9, 1, (xs.take k).map strC ++ List.replicate (xs.length - k) [.str []]⟩)]) (fun k => xs.length - k) 0 ⟨by first | (simp_all <;> fail) | rfl | fail, trivial⟩ ⟨by first | rfl | exact congrArg (fun e => some (AObj.mk _ _ _ e)) (set_rep hx) | exact congrArg (fun e => some (AObj.mk _ _ _ e)) start_rep | fail | fail, trivial⟩ (by (try dsimp only); first | trivial | (refine ⟨?_, by omega⟩; simp <;> fail) | (simp <;> fail) | fail) ?_; (conv => whnf); refine side_and (side_of (by first | exact fun k => rfl | exact fun k => by simp [headOk, closedE, closedO, closedL, AV.closed, hcap.closed, hasId, AObj.box, BK.ofB])) ?_; rintro k hT; try dsimp only at hT))
 | (refine Again_of (k + 1) ⟨by first | rfl | exact i64_next (by omega) | (simp_all <;> fail) | fail, trivial⟩ ⟨by first | rfl | exact congrArg (fun e => some (AObj.mk _ _ _ e)) (set_rep hx) | exact congrArg (fun e => some (AObj.mk _ _ _ e)) start_rep | fail | fail, trivial⟩ (by first | (and_intros <;> first | rfl | trivial) | fail) (by first | (and_intros <;> first | rfl | trivial) | fail) rfl rfl rfl (by (try dsimp only); first | (exact ⟨trivial, by omega⟩) | fail) (show _ < _ by (try dsimp only); omega))
 | (refine ix_map (by omega) (by (try simp only [List.length_take]); omega) (fun x hx => ?_); try simp only [Int.toNat_natCast] at hx)
 | refine side_and (side_of (by first | exact Nat.le_of_ble_eq_true rfl | exact rfl | omega | fail)) ?_
 | refine side_and (side_of (by first | (and_intros <;> first | rfl | omega | exact Nat.le_of_ble_eq_true rfl) | fail)) ?_
 | refine side_and (side_of (by first | (and_intros <;> first | exact Nat.le_of_ble_eq_true rfl | rfl | omega | (simp only [lensB, lensC]; omega) | exact bytes_ok (Nat.le_of_ble_eq_true rfl) (by omega) (by simp only [lensB, lensC]; omega) | exact bytes_okN (Nat.le_of_ble_eq_true rfl) (by simp only [lensB, lensC]; omega)) | fail)) ?_
 | refine StoreD_of rfl rfl rfl ?_
 | refine ix_rep (by simp; omega) (by omega) ?_
 | fail
  all_goals
    conv => whnf
    exact OutA_deep rfl rfl rfl ⟨⟨congrArg (fun e => some (AObj.mk _ _ _ e)) (full_rep (by omega)), rfl⟩, trivial⟩ rfl
theorem c_laws_eqStringS (xs ys : List (List UInt8)) (hok : (okL okS) xs) : PC Tryz.prog false 85 [.sl (xs.map strC), .sl (ys.map strC)] (.bool (decide (xs = ys))) [] := by
  have hl := hok.1
  refine pc_at Tryz.func85 rfl (by kernel_rfl) 26 [.tmp 4] rfl rfl ?_
  repeat' (conv => whnf); first
 | (refine nameB_dec (fun h => ?_) (fun h => ?_) <;> try simp only [lensB] at h)
 | (refine nameB_cases (fun h => ?_) (fun h => ?_) <;> try simp only [nmL, lensB] at h)
 | refine splitB_true ?_
 | refine splitB_false ?_
 | refine draw_text (by kernel_rfl) (by kernel_rfl) (by kernel_rfl) ?_
 | ((refine Loop_at [0, 1] [] (Nat) (fun k => xs.take k = ys.take k ∧ k ≤ xs.length) (fun k => [(5, .int .i64 (k : Nat))]) (fun k => []) (fun k => xs.length - k) 0 ⟨by first | (simp_all <;> fail) | rfl | fail, trivial⟩ trivial (by (try dsimp only); first | trivial | (refine ⟨?_, by omega⟩; simp <;> fail) | (simp <;> fail) | fail) ?_; (conv => whnf); refine side_and (side_of (by first | exact fun k => rfl | exact fun k => by simp [headOk, closedE, closedO, closedL, AV.closed, hcap.closed, hasId, AObj.box, BK.ofB])) ?_; rintro k hT; try dsimp only at hT))
 | (refine Again_of (k + 1) ⟨by first | rfl | exact i64_next (by omega) | (simp_all <;> fail) | fail, trivial⟩ trivial (by first | (and_intros <;> first | rfl | trivial) | fail) (by first | (and_intros <;> first | rfl | trivial) | fail) rfl rfl rfl (by (try dsimp only); first | (exact ⟨take_next hT.1 hx hy (by assumption), by omega⟩) | fail) (show _ < _ by (try dsimp only); omega))
 | (refine ix_map2 hx (by omega) (by (try simp only [List.length_take]); omega) (fun y hy => ?_); try simp only [Int.toNat_natCast] at hy)
 | (refine ix_map (by omega) (by (try simp only [List.length_take]); omega) (fun x hx => ?_); try simp only [Int.toNat_natCast] at hx)
 | refine side_and (side_of (by first | exact Nat.le_of_ble_eq_true rfl | exact rfl | omega | fail)) ?_
 | refine LoadK_of rfl rfl ?_
 | fail
  all_goals
    conv => whnf
    refine OutA_plain rfl rfl ?_
    first
    | exact bool_no (len_ne (by omega))
    | exact bool_no (get_ne hx hy (by assumption))
    | exact bool_yes (take_all_eq hT.1 (by omega) (by omega))
theorem m_laws_markStringS (xs : List (List UInt8)) (k : Int) (h0 : 0 ≤ k) (h1 : k + (cntL cnt1 xs : Int) ≤ 1152921504606846976) (hl : xs.length ≤ 1152921504606846976) : MC Tryz.prog 63 false [.sl (xs.map strC)] [.sl 9 1 [.leaf]] k [.sl ((mkL mkStr cnt1 xs k).map strC)] (k + (cntL cnt1 xs : Int)) := by
  refine mc_of Tryz.func63 rfl (by kernel_rfl) 20 [.tmp 4] [.own 0] rfl rfl (fun e => by first | rfl | cases e) rfl rfl ?_
  repeat' (conv => whnf); first
 | (refine nameB_dec (fun h => ?_) (fun h => ?_) <;> try simp only [lensB] at h)
 | refine splitB_true ?_
 | refine splitB_false ?_
 | ((refine Loop_at [0] [] (Nat) (fun i => i ≤ xs.length) (fun i => [(1, .int .i64 (k + (cntL cnt1 (xs.take i) : Int))), (5, .int .i64 (i : Nat))]) (fun i => [(0, ⟨.deep [.leaf], 9, 1, (midL mkStr cnt1 xs k i).map strC⟩)]) (fun i => xs.length - i) 0 ⟨by first | first | exact cnt0_eq | exact congrArg (AV.int IntKind.i64) (by first | (have hle := cntL_le (cnt := cnt1) hx; have hcx : cnt1 x = 1 := rfl; rw [cntL_take hx]; (try simp (disch := omega) only [i64w]); omega) | fail) | rfl | fail, by first | first | exact cnt0_eq | exact congrArg (AV.int IntKind.i64) (by first | (have hle := cntL_le (cnt := cnt1) hx; have hcx : cnt1 x = 1 := rfl; rw [cntL_take hx]; (try simp (disch := omega) only [i64w]); omega) | fail) | rfl | fail, trivial⟩ ⟨by first | rfl | first | exact congrArg (fun e => some (AObj.mk _ _ _ e)) (congrArg (List.map strC) midL_zero.symm) | exact congrArg (fun e => some (AObj.mk _ _ _ e)) (by first | (have hle := cntL_le (cnt := cnt1) hx; have hcx : cnt1 x = 1 := rfl; (try simp only [List.set_set, Int.toNat_natCast]); refine midL_next hx ?_; ((repeat' refine cells_eq ?_ ?_) <;> first | rfl | (refine congrArg (AV.int IntKind.i64) ?_; simp (disch := omega) only [i64w]; first | done | rfl) | (refine congrArg AV.str (congrArg mText ?_); simp (disch := omega) only [i64w]; first | done | rfl) | (refine congrArg AV.bool ?_; simp (disch := omega) only [i64w]; first | done | rfl) | (refine congrArg AV.sl ?_; simp (disch := omega) only [i64w]; first | done | rfl))) | fail) | fail | fail, trivial⟩ (by (try dsimp only); first | (exact Nat.zero_le _) | fail) ?_; (conv => whnf); refine side_and (side_of (by first | exact fun i => rfl | exact fun i => by simp [headOk, closedE, closedO, closedL, AV.closed, hcap.closed, hasId, AObj.box, BK.ofB])) ?_; rintro i hM; try dsimp only at hM))
 | (refine Again_of (i + 1) ⟨by first | first | exact cnt0_eq | exact congrArg (AV.int IntKind.i64) (by first | (have hle := cntL_le (cnt := cnt1) hx; have hcx : cnt1 x = 1 := rfl; rw [cntL_take hx]; (try simp (disch := omega) only [i64w]); omega) | fail) | rfl | fail, by first | rfl | exact i64_next (by omega) | first | exact cnt0_eq | exact congrArg (AV.int IntKind.i64) (by first | (have hle := cntL_le (cnt := cnt1) hx; have hcx : cnt1 x = 1 := rfl; rw [cntL_take hx]; (try simp (disch := omega) only [i64w]); omega) | fail) | fail, trivial⟩ ⟨by first | rfl | first | exact congrArg (fun e => some (AObj.mk _ _ _ e)) (congrArg (List.map strC) midL_zero.symm) | exact congrArg (fun e => some (AObj.mk _ _ _ e)) (by first | (have hle := cntL_le (cnt := cnt1) hx; have hcx : cnt1 x = 1 := rfl; (try simp only [List.set_set, Int.toNat_natCast]); refine midL_next hx ?_; ((repeat' refine cells_eq ?_ ?_) <;> first | rfl | (refine congrArg (AV.int IntKind.i64) ?_; simp (disch := omega) only [i64w]; first | done | rfl) | (refine congrArg AV.str (congrArg mText ?_); simp (disch := omega) only [i64w]; first | done | rfl) | (refine congrArg AV.bool ?_; simp (disch := omega) only [i64w]; first | done | rfl) | (refine congrArg AV.sl ?_; simp (disch := omega) only [i64w]; first | done | rfl))) | fail) | fail | fail, trivial⟩ (by first | (and_intros <;> first | rfl | trivial) | fail) (by first | (and_intros <;> first | rfl | trivial) | fail) rfl rfl rfl (by (try dsimp only); first | ((show i + 1 ≤ _; omega)) | fail) (show _ < _ by (try dsimp only); omega))
 | (refine Call0 (c_laws_markText _ (by first | (obtain ⟨x, hx⟩ := get_lt (xs := xs) (i := i) (by omega); have hle := cntL_le (cnt := cnt1) hx; have hcx : cnt1 x = 1 := rfl; first | omega | (simp (disch := omega) only [i64w]; omega)) | fail)) rfl rfl ?_)
 | refine side_and (side_of (by first | exact Nat.le_of_ble_eq_true rfl | exact rfl | omega | fail)) ?_
 | refine side_and (side_of (by first | (and_intros <;> first | rfl | omega | exact Nat.le_of_ble_eq_true rfl) | fail)) ?_
 | refine side_and (side_of (by first | (and_intros <;> first | exact Nat.le_of_ble_eq_true rfl | rfl | omega | (simp only [lensB, lensC]; omega) | exact bytes_ok (Nat.le_of_ble_eq_true rfl) (by omega) (by simp only [lensB, lensC]; omega) | exact bytes_okN (Nat.le_of_ble_eq_true rfl) (by simp only [lensB, lensC]; omega)) | fail)) ?_
 | refine StoreD_of rfl rfl rfl ?_
 | refine ix_mid (by omega) (fun x hx => ?_)
 | fail
  all_goals
    conv => whnf
    refine OutM_of (by rfl) (by rfl) (by rfl) ?_ ?_
    · exact congrArg (fun n : Nat => AV.int .i64 (k + (n : Int))) (cntL_end (by omega))
    · exact congrArg (fun l => [AV.sl (List.map strC l)]) (midL_end (by omega))
theorem c_laws_heldStringS (xs : List (List UInt8)) (k : Int) (h0 : 0 ≤ k) (h1 : k + (cntL cnt1 xs : Int) ≤ 1152921504606846976) (hl : xs.length ≤ 1152921504606846976) : PC Tryz.prog false 165 [.sl ((mkL mkStr cnt1 xs k).map strC), .int .i64 k] (.int .i64 (k + (cntL cnt1 xs : Int))) [] := by
  refine pc_at Tryz.func165 rfl (by kernel_rfl) 22 [.tmp 4] rfl rfl ?_
  repeat' (conv => whnf); first
 | refine ix_mk (i := i) rfl (by omega) (fun x hx => ?_)
 | refine nameB_no (heldB_no (by first | (have hle := cntL_le (cnt := cnt1) hx; have hcx : cnt1 x = 1 := rfl; first | rfl | (simp (disch := omega) only [i64w] <;> fail) | (simp (disch := omega) only [i64w]; rfl)) | fail)) ?_
 | (refine nameB_dec (fun h => ?_) (fun h => ?_) <;> try simp only [lensB] at h)
 | refine splitB_true ?_
 | refine splitB_false ?_
 | refine draw_text (by kernel_rfl) (by kernel_rfl) (by kernel_rfl) ?_
 | ((refine Loop_at [0] [] (Nat) (fun i => i ≤ xs.length) (fun i => [(1, .int .i64 (k + (cntL cnt1 (xs.take i) : Int))), (5, .int .i64 (i : Nat))]) (fun i => []) (fun i => xs.length - i) 0 ⟨by first | first | exact cnt0_eq | exact congrArg (AV.int IntKind.i64) (by first | (have hle := cntL_le (cnt := cnt1) hx; have hcx : cnt1 x = 1 := rfl; rw [cntL_take hx]; (try simp (disch := omega) only [i64w]); omega) | fail) | rfl | fail, by first | first | exact cnt0_eq | exact congrArg (AV.int IntKind.i64) (by first | (have hle := cntL_le (cnt := cnt1) hx; have hcx : cnt1 x = 1 := rfl; rw [cntL_take hx]; (try simp (disch := omega) only [i64w]); omega) | fail) | rfl | fail, trivial⟩ trivial (by (try dsimp only); first | (exact Nat.zero_le _) | fail) ?_; (conv => whnf); refine side_and (side_of (by first | exact fun i => rfl | exact fun i => by simp [headOk, closedE, closedO, closedL, AV.closed, hcap.closed, hasId, AObj.box, BK.ofB])) ?_; rintro i hM; try dsimp only at hM))
 | (refine Again_of (i + 1) ⟨by first | first | exact cnt0_eq | exact congrArg (AV.int IntKind.i64) (by first | (have hle := cntL_le (cnt := cnt1) hx; have hcx : cnt1 x = 1 := rfl; rw [cntL_take hx]; (try simp (disch := omega) only [i64w]); omega) | fail) | rfl | fail, by first | rfl | exact i64_next (by omega) | first | exact cnt0_eq | exact congrArg (AV.int IntKind.i64) (by first | (have hle := cntL_le (cnt := cnt1) hx; have hcx : cnt1 x = 1 := rfl; rw [cntL_take hx]; (try simp (disch := omega) only [i64w]); omega) | fail) | fail, trivial⟩ trivial (by first | (and_intros <;> first | rfl | trivial) | fail) (by first | (and_intros <;> first | rfl | trivial) | fail) rfl rfl rfl (by (try dsimp only); first | ((show i + 1 ≤ _; omega)) | fail) (show _ < _ by (try dsimp only); omega))
 | (refine CallD0 (c_laws_markText _ (by first | (have hle := cntL_le (cnt := cnt1) hx; have hcx : cnt1 x = 1 := rfl; first | omega | (simp (disch := omega) only [i64w]; omega)) | fail)) rfl rfl rfl ?_)
 | refine side_and (side_of (by first | exact Nat.le_of_ble_eq_true rfl | exact rfl | omega | fail)) ?_
 | refine LoadK_of rfl rfl ?_
 | fail
  all_goals
    conv => whnf
    refine OutA_plain rfl rfl ?_
    first
    | exact congrArg (fun n : Nat => AV.int .i64 (k + (n : Int))) (cntL_end (by omega))
    | (exfalso; omega)
structure WriteT where
  Key : List UInt8
  Val : List UInt8
  Gone : Bool
deriving DecidableEq
def WriteT.cells (x : WriteT) : List AV := [.str x.Key, .str x.Val, .bool x.Gone]
def WriteT.ok (x : WriteT) : Prop := okS x.Key ∧ okS x.Val ∧ okT x.Gone
def WriteT.w (x : WriteT) : Nat := x.Key.length + x.Val.length
theorem WriteT.same {x y : WriteT} (hKey : x.Key = y.Key) (hVal : x.Val = y.Val) (hGone : x.Gone = y.Gone) : x = y := by cases x; cases y; simp_all
theorem open_Write : ∀ n cs, Sh Tryz.prog n 168 cs → ∃ x : WriteT, cs = WriteT.cells x ∧ WriteT.ok x := by
  intro n cs h
  cases n with
  | zero => unfold Sh at h; exact h.elim
  | succ n =>
    unfold Sh at h
    rw [Tryz.underlying168] at h
    simp only [ShL] at h
    obtain ⟨y0, z0, rfl, g0, y1, z1, rfl, g1, y2, z2, rfl, g2, rfl⟩ := h
    obtain ⟨x0, rfl, o0⟩ := open_str Tryz.underlying9 _ _ g0
    obtain ⟨x1, rfl, o1⟩ := open_str Tryz.underlying9 _ _ g1
    obtain ⟨x2, rfl, o2⟩ := open_bool Tryz.underlying4 _ _ g2
    exact ⟨⟨x0, x1, x2⟩, rfl, o0, o1, o2⟩
def WriteT.shp : List Shp := [.leaf, .leaf, .leaf]
def WriteT.mkM (x : WriteT) (k : Int) : WriteT := ⟨mText k, mText (k + 1), ((k + 1 + 1).tmod 3 == 0)⟩
def WriteT.cnt (x : WriteT) : Nat := 1 + 1 + 1
theorem cntL_len_Write (xs : List WriteT) : xs.length ≤ cntL WriteT.cnt xs := by
  induction xs with
  | nil => exact Nat.zero_le _
  | cons x xs ih =>
    simp only [cntL, List.map_cons, List.sum_cons, List.length_cons] at ih ⊢
    have hcx : WriteT.cnt x = 1 + 1 + 1 := rfl
    omega
theorem WriteT.cnt_w (x : WriteT) : WriteT.cnt x ≤ 100 * (1 + WriteT.w x) := by
  simp only [WriteT.cnt, WriteT.w] at *
  omega
theorem c_laws_szWrite (x : WriteT) (n : Int) (h0 : 0 ≤ n) (h1 : n ≤ 1048576) (hok : x.ok) : PC Tryz.prog false 129 [.agg x.cells, .int .i64 n] (.int .i64 (szN n x.w)) [] := by
  have oKey : okS x.Key := hok.1
  have bKey : x.Key.length ≤ 9223372036854775807 := oKey
  have oVal : okS x.Val := hok.2.1
  have bVal : x.Val.length ≤ 9223372036854775807 := oVal
  have hw : x.w = x.Key.length + x.Val.length := rfl
  refine pc_at Tryz.func129 rfl (by kernel_rfl) 20 [.tmp 4] rfl rfl ?_
  repeat' (conv => whnf); first
 | (refine nameB_dec (fun h => ?_) (fun h => ?_) <;> try simp only [lensB] at h)
 | refine splitB_true ?_
 | refine splitB_false ?_
 | refine side_and (side_of (by first | exact Nat.le_of_ble_eq_true rfl | exact rfl | omega | fail)) ?_
 | fail
  all_goals
    conv => whnf
    refine OutA_plain rfl rfl ?_
    refine congrArg (AV.int .i64) ?_
    (try simp only [i64_wrap_eq] at *)
    first | exact szN_neg (by omega) | exact szN_pos (by omega) (by omega)
theorem c_laws_toWrite (x : WriteT) : PC Tryz.prog false 134 [.agg x.cells] (.agg (WriteT.cells x)) [] := by
  refine pc_at Tryz.func134 rfl (by kernel_rfl) 14 [.cell 2 154] rfl rfl ?_
  repeat' (conv => whnf); first
 | refine nameB_self (b := x.Gone) ?_
 | refine side_and (side_of (by first | exact ⟨Nat.le_of_ble_eq_true rfl, rfl⟩ | fail)) ?_
 | refine side_and (side_of (by first | exact Nat.le_of_ble_eq_true rfl | exact rfl | omega | fail)) ?_
 | refine side_and (side_of (by first | (and_intros <;> first | rfl | omega | exact Nat.le_of_ble_eq_true rfl) | fail)) ?_
 | fail
  all_goals
    conv => whnf
    exact OutA_plain rfl rfl rfl
theorem c_laws_eqWrite (x y : WriteT) : PC Tryz.prog false 135 [.agg x.cells, .agg y.cells] (.bool (decide (x = y))) [] := by
  refine pc_at Tryz.func135 rfl (by kernel_rfl) 20 [.tmp 4] rfl rfl ?_
  repeat' (conv => whnf); first
 | refine nameB_self (b := x.Gone) ?_
 | refine nameB_self (b := y.Gone) ?_
 | (refine nameB_cases (fun h => ?_) (fun h => ?_) <;> try simp only [nmL, lensB] at h)
 | refine splitB_true ?_
 | refine splitB_false ?_
 | refine side_and (side_of (by first | exact Nat.le_of_ble_eq_true rfl | exact rfl | omega | fail)) ?_
 | fail
  all_goals
    conv => whnf
    refine OutA_plain rfl rfl ?_
    first
    | exact bool_no (fun e => absurd (congrArg WriteT.Key e) (by assumption))
    | exact bool_no (fun e => absurd (congrArg WriteT.Val e) (by assumption))
    | exact bool_no (fun e => absurd (congrArg WriteT.Gone e) (by assumption))
    | exact bool_yes (WriteT.same (by assumption) (by assumption) (by assumption))
theorem c_laws_szWriteS (xs : List WriteT) (n : Int) (h0 : 0 ≤ n) (h1 : n ≤ 1048576) (hok : (okL WriteT.ok) xs) : PC Tryz.prog false 76 [.sl (xs.map WriteT.cells), .int .i64 n] (.int .i64 (szN n (wL WriteT.w xs))) [] := by
  have hl := hok.1
  refine pc_at Tryz.func76 rfl (by kernel_rfl) 27 [.tmp 4] rfl rfl ?_
  repeat' (conv => whnf); first
 | refine nameB_true ?_
 | refine nameB_dno (by assumption) ?_
 | (refine nameB_dec (fun h => ?_) (fun h => ?_) <;> try simp only [lensB] at h)
 | refine splitB_true ?_
 | refine splitB_false ?_
 | ((refine Loop_at [0] [] (Nat × Int) (fun j => match j with | (k, m) => (0 ≤ m ∧ m ≤ 1048576) ∧ m - (((xs.drop k).map WriteT.w).sum : Nat) = n - (wL WriteT.w xs : Nat) ∧ k ≤ xs.length) (fun j => match j with | (k, m) => [(1, .int .i64 m), (5, .int .i64 (k : Nat))]) (fun j => match j with | (k, m) => []) (fun j => match j with | (k, m) => xs.length - k) (0, _) ⟨rfl, by first | (simp_all <;> fail) | rfl | fail, trivial⟩ trivial (by (try dsimp only); first | ((simp only [i64_wrap_eq, List.length_map, wL, List.drop_zero] at *; omega)) | fail) ?_; (conv => whnf); refine side_and (side_of (by first | exact fun ⟨k, m⟩ => rfl | exact fun ⟨k, m⟩ => by simp [headOk, closedE, closedO, closedL, AV.closed, hcap.closed, hasId, AObj.box, BK.ofB])) ?_; rintro ⟨k, m⟩ hT; try dsimp only at hT))
 | (refine Again_of (k + 1, _) ⟨rfl, by first | rfl | exact i64_next (by omega) | (simp_all <;> fail) | fail, trivial⟩ trivial (by first | (and_intros <;> first | rfl | trivial) | fail) (by first | (and_intros <;> first | rfl | trivial) | fail) rfl rfl rfl (by (try dsimp only); first | ((have hs := sum_drop WriteT.w hx; omega)) | fail) (show _ < _ by (try dsimp only); omega))
 | ((by_cases hn : m - (WriteT.w x : Nat) < 0 <;> first | refine Call0 (pc_szneg (c_laws_szWrite x m hT.1.1 hT.1.2 (hok.2 x (List.mem_of_getElem? hx))) hn) rfl rfl ?_ | refine Call0 (pc_szpos (c_laws_szWrite x m hT.1.1 hT.1.2 (hok.2 x (List.mem_of_getElem? hx))) hn) rfl rfl ?_))
 | (refine ix_map (by omega) (by (try simp only [List.length_take]); omega) (fun x hx => ?_); try simp only [Int.toNat_natCast] at hx)
 | refine side_and (side_of (by first | exact Nat.le_of_ble_eq_true rfl | exact rfl | omega | fail)) ?_
 | fail
  all_goals
    conv => whnf
    refine OutA_plain rfl rfl ?_
    refine congrArg (AV.int .i64) ?_
    first
    | (have hs := sum_drop WriteT.w hx; exact szN_neg (by omega))
    | (have hs := sum_end WriteT.w (xs := xs) (k := k) (by omega); exact szN_pos (by omega) (by omega))
    | (have hs : wL WriteT.w xs = xs.length + (xs.map WriteT.w).sum := rfl; simp only [i64_wrap_eq] at *; exact szN_neg (by omega))
theorem c_laws_toWriteS (xs : List WriteT) (hw : wL WriteT.w xs ≤ 1048576) : PC Tryz.prog false 84 [.sl (xs.map WriteT.cells)] (.own 0) [⟨.deep WriteT.shp, 154, 3, xs.map WriteT.cells⟩] := by
  have hl : xs.length ≤ 1048576 := Nat.le_trans wL_len hw
  refine pc_at Tryz.func84 rfl (by kernel_rfl) 23 [.tmp 2] rfl rfl ?_
  repeat' (conv => whnf); first
 | (refine nameB_dec (fun h => ?_) (fun h => ?_) <;> try simp only [lensB] at h)
 | refine splitB_true ?_
 | refine splitB_false ?_
 | ((refine Loop_prom [(4128, WriteT.shp)] ⟨⟨_, _, _, rfl, by first | exact prom_nil | exact prom_rep rfl | exact prom_map (fun _ => rfl) | exact prom_one rfl⟩, trivial⟩ ?_; refine Loop_at [0, 3] [] (Nat) (fun k => True ∧ k ≤ xs.length) (fun k => [(4, .int .i64 (k : Nat))]) (fun k => [(4128, ⟨.deep WriteT.shp, 154, 3, (xs.take k).map WriteT.cells ++ List.replicate (xs.length - k) [.str [], .str [], .bool false]⟩)]) (fun k => xs.length - k) 0 ⟨by first | (simp_all <;> fail) | rfl | fail, trivial⟩ ⟨by first | rfl | exact congrArg (fun e => some (AObj.mk _ _ _ e)) (set_rep hx) | exact congrArg (fun e => some (AObj.mk _ _ _ e)) start_rep | fail | fail, trivial⟩ (by (try dsimp only); first | trivial | (refine ⟨?_, by omega⟩; simp <;> fail) | (simp <;> fail) | fail) ?_; (conv => whnf); refine side_and (side_of (by first | exact fun k => rfl | exact fun k => by simp [headOk, closedE, closedO, closedL, AV.closed, hcap.closed, hasId, AObj.box, BK.ofB])) ?_; rintro k hT; try dsimp only at hT))
 | (refine Again_of (k + 1) ⟨by first | rfl | exact i64_next (by omega) | (simp_all <;> fail) | fail, trivial⟩ ⟨by first | rfl | exact congrArg (fun e => some (AObj.mk _ _ _ e)) (set_rep hx) | exact congrArg (fun e => some (AObj.mk _ _ _ e)) start_rep | fail | fail, trivial⟩ (by first | (and_intros <;> first | rfl | trivial) | fail) (by first | (and_intros <;> first | rfl | trivial) | fail) rfl rfl rfl (by (try dsimp only); first | (exact ⟨trivial, by omega⟩) | fail) (show _ < _ by (try dsimp only); omega))
 | refine Call0 (c_laws_toWrite x) rfl rfl ?_
 | (refine ix_map (by omega) (by (try simp only [List.length_take]); omega) (fun x hx => ?_); try simp only [Int.toNat_natCast] at hx)
 | refine side_and (side_of (by first | exact Nat.le_of_ble_eq_true rfl | exact rfl | omega | fail)) ?_
 | refine side_and (side_of (by first | (and_intros <;> first | rfl | omega | exact Nat.le_of_ble_eq_true rfl) | fail)) ?_
 | refine side_and (side_of (by first | (and_intros <;> first | exact Nat.le_of_ble_eq_true rfl | rfl | omega | (simp only [lensB, lensC]; omega) | exact bytes_ok (Nat.le_of_ble_eq_true rfl) (by omega) (by simp only [lensB, lensC]; omega) | exact bytes_okN (Nat.le_of_ble_eq_true rfl) (by simp only [lensB, lensC]; omega)) | fail)) ?_
 | refine StoreD_of rfl rfl rfl ?_
 | refine ix_rep (by simp; omega) (by omega) ?_
 | fail
  all_goals
    conv => whnf
    exact OutA_deep rfl rfl rfl ⟨⟨congrArg (fun e => some (AObj.mk _ _ _ e)) (full_rep (by omega)), rfl⟩, trivial⟩ rfl
theorem c_laws_eqWriteS (xs ys : List WriteT) (hok : (okL WriteT.ok) xs) : PC Tryz.prog false 86 [.sl (xs.map WriteT.cells), .sl (ys.map WriteT.cells)] (.bool (decide (xs = ys))) [] := by
  have hl := hok.1
  refine pc_at Tryz.func86 rfl (by kernel_rfl) 27 [.tmp 4] rfl rfl ?_
  repeat' (conv => whnf); first
 | refine nameB_true ?_
 | refine nameB_false ?_
 | (refine nameB_dec (fun h => ?_) (fun h => ?_) <;> try simp only [lensB] at h)
 | (refine nameB_cases (fun h => ?_) (fun h => ?_) <;> try simp only [nmL, lensB] at h)
 | refine splitB_true ?_
 | refine splitB_false ?_
 | refine draw_text (by kernel_rfl) (by kernel_rfl) (by kernel_rfl) ?_
 | ((refine Loop_at [0, 1] [] (Nat) (fun k => xs.take k = ys.take k ∧ k ≤ xs.length) (fun k => [(5, .int .i64 (k : Nat))]) (fun k => []) (fun k => xs.length - k) 0 ⟨by first | (simp_all <;> fail) | rfl | fail, trivial⟩ trivial (by (try dsimp only); first | trivial | (refine ⟨?_, by omega⟩; simp <;> fail) | (simp <;> fail) | fail) ?_; (conv => whnf); refine side_and (side_of (by first | exact fun k => rfl | exact fun k => by simp [headOk, closedE, closedO, closedL, AV.closed, hcap.closed, hasId, AObj.box, BK.ofB])) ?_; rintro k hT; try dsimp only at hT))
 | (refine Again_of (k + 1) ⟨by first | rfl | exact i64_next (by omega) | (simp_all <;> fail) | fail, trivial⟩ trivial (by first | (and_intros <;> first | rfl | trivial) | fail) (by first | (and_intros <;> first | rfl | trivial) | fail) rfl rfl rfl (by (try dsimp only); first | (exact ⟨take_next hT.1 hx hy (by assumption), by omega⟩) | fail) (show _ < _ by (try dsimp only); omega))
 | refine CallD0 (c_laws_eqWrite x y) rfl rfl rfl ?_
 | (refine ix_map2 hx (by omega) (by (try simp only [List.length_take]); omega) (fun y hy => ?_); try simp only [Int.toNat_natCast] at hy)
 | (refine ix_map (by omega) (by (try simp only [List.length_take]); omega) (fun x hx => ?_); try simp only [Int.toNat_natCast] at hx)
 | refine side_and (side_of (by first | exact Nat.le_of_ble_eq_true rfl | exact rfl | omega | fail)) ?_
 | refine LoadK_of rfl rfl ?_
 | fail
  all_goals
    conv => whnf
    refine OutA_plain rfl rfl ?_
    first
    | exact bool_no (len_ne (by omega))
    | exact bool_no (get_ne hx hy (by assumption))
    | exact bool_yes (take_all_eq hT.1 (by omega) (by omega))
theorem m_laws_markWriteS (xs : List WriteT) (k : Int) (h0 : 0 ≤ k) (h1 : k + (cntL WriteT.cnt xs : Int) ≤ 1152921504606846976) (hl : xs.length ≤ 1152921504606846976) : MC Tryz.prog 64 false [.sl (xs.map WriteT.cells)] [.sl 154 3 WriteT.shp] k [.sl ((mkL WriteT.mkM WriteT.cnt xs k).map WriteT.cells)] (k + (cntL WriteT.cnt xs : Int)) := by
  refine mc_of Tryz.func64 rfl (by kernel_rfl) 38 [.tmp 4] [.own 0] rfl rfl (fun e => by first | rfl | cases e) rfl rfl ?_
  repeat' (conv => whnf); first
 | refine nameB_self (b := (_ == _)) ?_
 | (show Go.Ab.StoreD _ _ _ 0 _ _ _ _ _; refine StoreD_cut (off := 0) [(0, .own 0), (1, .int .i64 ((k + (cntL WriteT.cnt (xs.take i) : Int)))), (5, .int .i64 (i : Nat))] [(0, ⟨.deep WriteT.shp, 154, 3, (((midL WriteT.mkM WriteT.cnt xs k i).map WriteT.cells).set i [.str (mText ((k + (cntL WriteT.cnt (xs.take i) : Int)))), .str x.Val, .bool x.Gone])⟩)] rfl rfl ⟨rfl, (by first | rfl | exact congrArg (AV.int IntKind.i64) (by first | (have hle := cntL_le (cnt := WriteT.cnt) hx; have hcx : WriteT.cnt x = 1 + 1 + 1 := rfl; first | (simp (disch := omega) only [i64w] <;> fail) | (simp (disch := omega) only [i64w]; omega)) | fail) | fail), rfl, trivial⟩ rfl ⟨congrArg (fun l => some (AObj.mk _ _ _ l)) (by first | (have hle := cntL_le (cnt := WriteT.cnt) hx; have hcx : WriteT.cnt x = 1 + 1 + 1 := rfl; (try simp only [List.set_set, Int.toNat_natCast]); refine congrArg (List.set _ _) ?_; ((repeat' refine cells_eq ?_ ?_) <;> first | rfl | (refine congrArg (AV.int IntKind.i64) ?_; simp (disch := omega) only [i64w]; first | done | rfl) | (refine congrArg AV.str (congrArg mText ?_); simp (disch := omega) only [i64w]; first | done | rfl) | (refine congrArg AV.bool ?_; simp (disch := omega) only [i64w]; first | done | rfl) | (refine congrArg AV.sl ?_; simp (disch := omega) only [i64w]; first | done | rfl))) | fail), trivial⟩ rfl rfl ⟨rfl, by simp⟩ ?_)
 | (show Go.Ab.StoreD _ _ _ 1 _ _ _ _ _; refine StoreD_cut (off := 1) [(0, .own 0), (1, .int .i64 ((k + (cntL WriteT.cnt (xs.take i) : Int)) + 1)), (5, .int .i64 (i : Nat))] [(0, ⟨.deep WriteT.shp, 154, 3, (((midL WriteT.mkM WriteT.cnt xs k i).map WriteT.cells).set i [.str (mText ((k + (cntL WriteT.cnt (xs.take i) : Int)))), .str (mText ((k + (cntL WriteT.cnt (xs.take i) : Int)) + 1)), .bool x.Gone])⟩)] rfl rfl ⟨rfl, (by first | rfl | exact congrArg (AV.int IntKind.i64) (by first | (have hle := cntL_le (cnt := WriteT.cnt) hx; have hcx : WriteT.cnt x = 1 + 1 + 1 := rfl; first | (simp (disch := omega) only [i64w] <;> fail) | (simp (disch := omega) only [i64w]; omega)) | fail) | fail), rfl, trivial⟩ rfl ⟨congrArg (fun l => some (AObj.mk _ _ _ l)) (by first | (have hle := cntL_le (cnt := WriteT.cnt) hx; have hcx : WriteT.cnt x = 1 + 1 + 1 := rfl; (try simp only [List.set_set, Int.toNat_natCast]); refine congrArg (List.set _ _) ?_; ((repeat' refine cells_eq ?_ ?_) <;> first | rfl | (refine congrArg (AV.int IntKind.i64) ?_; simp (disch := omega) only [i64w]; first | done | rfl) | (refine congrArg AV.str (congrArg mText ?_); simp (disch := omega) only [i64w]; first | done | rfl) | (refine congrArg AV.bool ?_; simp (disch := omega) only [i64w]; first | done | rfl) | (refine congrArg AV.sl ?_; simp (disch := omega) only [i64w]; first | done | rfl))) | fail), trivial⟩ rfl rfl ⟨rfl, by simp⟩ ?_)
 | (show Go.Ab.StoreD _ _ _ 2 _ _ _ _ _; refine StoreD_cut (off := 2) [(0, .own 0), (1, .int .i64 ((k + (cntL WriteT.cnt (xs.take i) : Int)) + 1 + 1)), (5, .int .i64 (i : Nat))] [(0, ⟨.deep WriteT.shp, 154, 3, (((midL WriteT.mkM WriteT.cnt xs k i).map WriteT.cells).set i [.str (mText ((k + (cntL WriteT.cnt (xs.take i) : Int)))), .str (mText ((k + (cntL WriteT.cnt (xs.take i) : Int)) + 1)), .bool (((k + (cntL WriteT.cnt (xs.take i) : Int)) + 1 + 1).tmod 3 == 0)])⟩)] rfl rfl ⟨rfl, (by first | rfl | exact congrArg (AV.int IntKind.i64) (by first | (have hle := cntL_le (cnt := WriteT.cnt) hx; have hcx : WriteT.cnt x = 1 + 1 + 1 := rfl; first | (simp (disch := omega) only [i64w] <;> fail) | (simp (disch := omega) only [i64w]; omega)) | fail) | fail), rfl, trivial⟩ rfl ⟨congrArg (fun l => some (AObj.mk _ _ _ l)) (by first | (have hle := cntL_le (cnt := WriteT.cnt) hx; have hcx : WriteT.cnt x = 1 + 1 + 1 := rfl; (try simp only [List.set_set, Int.toNat_natCast]); refine congrArg (List.set _ _) ?_; ((repeat' refine cells_eq ?_ ?_) <;> first | rfl | (refine congrArg (AV.int IntKind.i64) ?_; simp (disch := omega) only [i64w]; first | done | rfl) | (refine congrArg AV.str (congrArg mText ?_); simp (disch := omega) only [i64w]; first | done | rfl) | (refine congrArg AV.bool ?_; simp (disch := omega) only [i64w]; first | done | rfl) | (refine congrArg AV.sl ?_; simp (disch := omega) only [i64w]; first | done | rfl))) | fail), trivial⟩ rfl rfl ⟨rfl, by simp⟩ ?_)
 | (refine nameB_dec (fun h => ?_) (fun h => ?_) <;> try simp only [lensB] at h)
 | refine splitB_true ?_
 | refine splitB_false ?_
 | ((refine Loop_at [0] [] (Nat) (fun i => i ≤ xs.length) (fun i => [(1, .int .i64 (k + (cntL WriteT.cnt (xs.take i) : Int))), (5, .int .i64 (i : Nat))]) (fun i => [(0, ⟨.deep WriteT.shp, 154, 3, (midL WriteT.mkM WriteT.cnt xs k i).map WriteT.cells⟩)]) (fun i => xs.length - i) 0 ⟨by first | first | exact cnt0_eq | exact congrArg (AV.int IntKind.i64) (by first | (have hle := cntL_le (cnt := WriteT.cnt) hx; have hcx : WriteT.cnt x = 1 + 1 + 1 := rfl; rw [cntL_take hx]; (try simp (disch := omega) only [i64w]); omega) | fail) | rfl | fail, by first | first | exact cnt0_eq | exact congrArg (AV.int IntKind.i64) (by first | (have hle := cntL_le (cnt := WriteT.cnt) hx; have hcx : WriteT.cnt x = 1 + 1 + 1 := rfl; rw [cntL_take hx]; (try simp (disch := omega) only [i64w]); omega) | fail) | rfl | fail, trivial⟩ ⟨by first | rfl | first | exact congrArg (fun e => some (AObj.mk _ _ _ e)) (congrArg (List.map WriteT.cells) midL_zero.symm) | exact congrArg (fun e => some (AObj.mk _ _ _ e)) (by first | (refine midL_next hx ?_; rfl) | fail) | fail | fail, trivial⟩ (by (try dsimp only); first | (exact Nat.zero_le _) | fail) ?_; (conv => whnf); refine side_and (side_of (by first | exact fun i => rfl | exact fun i => by simp [headOk, closedE, closedO, closedL, AV.closed, hcap.closed, hasId, AObj.box, BK.ofB])) ?_; rintro i hM; try dsimp only at hM))
 | (refine Again_of (i + 1) ⟨by first | first | exact cnt0_eq | exact congrArg (AV.int IntKind.i64) (by first | (have hle := cntL_le (cnt := WriteT.cnt) hx; have hcx : WriteT.cnt x = 1 + 1 + 1 := rfl; rw [cntL_take hx]; (try simp (disch := omega) only [i64w]); omega) | fail) | rfl | fail, by first | rfl | exact i64_next (by omega) | first | exact cnt0_eq | exact congrArg (AV.int IntKind.i64) (by first | (have hle := cntL_le (cnt := WriteT.cnt) hx; have hcx : WriteT.cnt x = 1 + 1 + 1 := rfl; rw [cntL_take hx]; (try simp (disch := omega) only [i64w]); omega) | fail) | fail, trivial⟩ ⟨by first | rfl | first | exact congrArg (fun e => some (AObj.mk _ _ _ e)) (congrArg (List.map WriteT.cells) midL_zero.symm) | exact congrArg (fun e => some (AObj.mk _ _ _ e)) (by first | (refine midL_next hx ?_; rfl) | fail) | fail | fail, trivial⟩ (by first | (and_intros <;> first | rfl | trivial) | fail) (by first | (and_intros <;> first | rfl | trivial) | fail) rfl rfl rfl (by (try dsimp only); first | ((show i + 1 ≤ _; omega)) | fail) (show _ < _ by (try dsimp only); omega))
 | (refine Call0 (c_laws_markText _ (by first | (obtain ⟨x, hx⟩ := get_lt (xs := xs) (i := i) (by omega); have hle := cntL_le (cnt := WriteT.cnt) hx; have hcx : WriteT.cnt x = 1 + 1 + 1 := rfl; first | omega | (simp (disch := omega) only [i64w]; omega)) | fail)) rfl rfl ?_)
 | refine side_and (side_of (by first | exact Nat.le_of_ble_eq_true rfl | exact rfl | omega | fail)) ?_
 | refine side_and (side_of (by first | (and_intros <;> first | rfl | omega | exact Nat.le_of_ble_eq_true rfl) | fail)) ?_
 | refine side_and (side_of (by first | (and_intros <;> first | exact Nat.le_of_ble_eq_true rfl | rfl | omega | (simp only [lensB, lensC]; omega) | exact bytes_ok (Nat.le_of_ble_eq_true rfl) (by omega) (by simp only [lensB, lensC]; omega) | exact bytes_okN (Nat.le_of_ble_eq_true rfl) (by simp only [lensB, lensC]; omega)) | fail)) ?_
 | refine ix_setN (by simp only [List.length_set, List.length_map, midL_len]; omega) ?_
 | refine ix_mid (by omega) (fun x hx => ?_)
 | fail
  all_goals
    conv => whnf
    refine OutM_of (by rfl) (by rfl) (by rfl) ?_ ?_
    · exact congrArg (fun n : Nat => AV.int .i64 (k + (n : Int))) (cntL_end (by omega))
    · exact congrArg (fun l => [AV.sl (List.map WriteT.cells l)]) (midL_end (by omega))
theorem c_laws_heldWriteS (xs : List WriteT) (k : Int) (h0 : 0 ≤ k) (h1 : k + (cntL WriteT.cnt xs : Int) ≤ 1152921504606846976) (hl : xs.length ≤ 1152921504606846976) : PC Tryz.prog false 166 [.sl ((mkL WriteT.mkM WriteT.cnt xs k).map WriteT.cells), .int .i64 k] (.int .i64 (k + (cntL WriteT.cnt xs : Int))) [] := by
  refine pc_at Tryz.func166 rfl (by kernel_rfl) 44 [.tmp 4] rfl rfl ?_
  repeat' (conv => whnf); first
 | refine ix_mk_at hx ?_
 | refine ix_mk (i := i) rfl (by omega) (fun x hx => ?_)
 | refine nameB_no (by first | (have hle := cntL_le (cnt := WriteT.cnt) hx; have hcx : WriteT.cnt x = 1 + 1 + 1 := rfl; simp (disch := omega) only [i64w, bne_self_eq_false, beq_self_eq_true, Bool.not_true] <;> fail) | fail) ?_
 | refine nameB_no (heldB_no (by first | (have hle := cntL_le (cnt := WriteT.cnt) hx; have hcx : WriteT.cnt x = 1 + 1 + 1 := rfl; first | rfl | (simp (disch := omega) only [i64w] <;> fail) | (simp (disch := omega) only [i64w]; rfl)) | fail)) ?_
 | refine nameB_self (b := (_ == _)) ?_
 | (refine nameB_dec (fun h => ?_) (fun h => ?_) <;> try simp only [lensB] at h)
 | refine splitB_true ?_
 | refine splitB_false ?_
 | refine draw_text (by kernel_rfl) (by kernel_rfl) (by kernel_rfl) ?_
 | ((refine Loop_at [0] [] (Nat) (fun i => i ≤ xs.length) (fun i => [(1, .int .i64 (k + (cntL WriteT.cnt (xs.take i) : Int))), (5, .int .i64 (i : Nat))]) (fun i => []) (fun i => xs.length - i) 0 ⟨by first | first | exact cnt0_eq | exact congrArg (AV.int IntKind.i64) (by first | (have hle := cntL_le (cnt := WriteT.cnt) hx; have hcx : WriteT.cnt x = 1 + 1 + 1 := rfl; rw [cntL_take hx]; (try simp (disch := omega) only [i64w]); omega) | fail) | rfl | fail, by first | first | exact cnt0_eq | exact congrArg (AV.int IntKind.i64) (by first | (have hle := cntL_le (cnt := WriteT.cnt) hx; have hcx : WriteT.cnt x = 1 + 1 + 1 := rfl; rw [cntL_take hx]; (try simp (disch := omega) only [i64w]); omega) | fail) | rfl | fail, trivial⟩ trivial (by (try dsimp only); first | (exact Nat.zero_le _) | fail) ?_; (conv => whnf); refine side_and (side_of (by first | exact fun i => rfl | exact fun i => by simp [headOk, closedE, closedO, closedL, AV.closed, hcap.closed, hasId, AObj.box, BK.ofB])) ?_; rintro i hM; try dsimp only at hM))
 | (refine Again_of (i + 1) ⟨by first | first | exact cnt0_eq | exact congrArg (AV.int IntKind.i64) (by first | (have hle := cntL_le (cnt := WriteT.cnt) hx; have hcx : WriteT.cnt x = 1 + 1 + 1 := rfl; rw [cntL_take hx]; (try simp (disch := omega) only [i64w]); omega) | fail) | rfl | fail, by first | rfl | exact i64_next (by omega) | first | exact cnt0_eq | exact congrArg (AV.int IntKind.i64) (by first | (have hle := cntL_le (cnt := WriteT.cnt) hx; have hcx : WriteT.cnt x = 1 + 1 + 1 := rfl; rw [cntL_take hx]; (try simp (disch := omega) only [i64w]); omega) | fail) | fail, trivial⟩ trivial (by first | (and_intros <;> first | rfl | trivial) | fail) (by first | (and_intros <;> first | rfl | trivial) | fail) rfl rfl rfl (by (try dsimp only); first | ((show i + 1 ≤ _; omega)) | fail) (show _ < _ by (try dsimp only); omega))
 | (refine CallD0 (c_laws_markText _ (by first | (have hle := cntL_le (cnt := WriteT.cnt) hx; have hcx : WriteT.cnt x = 1 + 1 + 1 := rfl; first | omega | (simp (disch := omega) only [i64w]; omega)) | fail)) rfl rfl rfl ?_)
 | refine side_and (side_of (by first | exact Nat.le_of_ble_eq_true rfl | exact rfl | omega | fail)) ?_
 | refine LoadK_of rfl rfl ?_
 | fail
  all_goals
    conv => whnf
    refine OutA_plain rfl rfl ?_
    first
    | exact congrArg (fun n : Nat => AV.int .i64 (k + (n : Int))) (cntL_end (by omega))
    | (exfalso; omega)
structure VerT where
  Time : Int
  Val : List UInt8
  Gone : Bool
deriving DecidableEq
def VerT.cells (x : VerT) : List AV := [.int .i64 x.Time, .str x.Val, .bool x.Gone]
def VerT.ok (x : VerT) : Prop := okT x.Time ∧ okS x.Val ∧ okT x.Gone
def VerT.w (x : VerT) : Nat := x.Val.length
theorem VerT.same {x y : VerT} (hTime : x.Time = y.Time) (hVal : x.Val = y.Val) (hGone : x.Gone = y.Gone) : x = y := by cases x; cases y; simp_all
def VerT.shp : List Shp := [.leaf, .leaf, .leaf]
def VerT.mkM (x : VerT) (k : Int) : VerT := ⟨k, mText (k + 1), ((k + 1 + 1).tmod 3 == 0)⟩
def VerT.cnt (x : VerT) : Nat := 1 + 1 + 1
theorem VerT.cnt_w (x : VerT) : VerT.cnt x ≤ 100 * (1 + VerT.w x) := by
  simp only [VerT.cnt, VerT.w] at *
  omega
structure CellT where
  Key : List UInt8
  Vers : List VerT
deriving DecidableEq
def CellT.cells (x : CellT) : List AV := [.str x.Key, .sl (x.Vers.map VerT.cells)]
def CellT.ok (x : CellT) : Prop := okS x.Key ∧ (okL VerT.ok) x.Vers
def CellT.w (x : CellT) : Nat := x.Key.length + wL VerT.w x.Vers
theorem CellT.same {x y : CellT} (hKey : x.Key = y.Key) (hVers : x.Vers = y.Vers) : x = y := by cases x; cases y; simp_all
def CellT.mkM (x : CellT) (k : Int) : CellT := ⟨mText k, mkL VerT.mkM VerT.cnt x.Vers (k + 1)⟩
def CellT.cnt (x : CellT) : Nat := 1 + cntL VerT.cnt x.Vers
def CellT.mkS (x : CellT) (k : Int) : CellT := ⟨x.Key, mkL VerT.mkM VerT.cnt x.Vers k⟩
def CellT.cntS (x : CellT) (k : Int) : Int := k + (cntL VerT.cnt x.Vers : Int)
theorem CellT.cnt_w (x : CellT) : CellT.cnt x ≤ 100 * (1 + CellT.w x) := by
  have h0 := cntL_w100 (cnt := VerT.cnt) (w := VerT.w) (fun y => VerT.cnt_w y) x.Vers
  simp only [CellT.cnt, CellT.w] at *
  omega
theorem CellT.cntS_w (x : CellT) (k : Int) : CellT.cntS x k ≤ k + 100 * (1 + (CellT.w x : Int)) := by
  have h0 := cntL_w100 (cnt := VerT.cnt) (w := VerT.w) (fun y => VerT.cnt_w y) x.Vers
  simp only [CellT.cntS, CellT.cnt, CellT.w] at *
  omega
structure RecT where
  Kind : Int
  Txn : Int
  Time : Int
  Lead : Int
  Reads : List (List UInt8)
  Writes : List WriteT
  Yes : Bool
deriving DecidableEq
def RecT.cells (x : RecT) : List AV := [.int .i64 x.Kind, .int .i64 x.Txn, .int .i64 x.Time, .int .i64 x.Lead, .sl (x.Reads.map strC), .sl (x.Writes.map WriteT.cells), .bool x.Yes]
def RecT.ok (x : RecT) : Prop := okT x.Kind ∧ okT x.Txn ∧ okT x.Time ∧ okT x.Lead ∧ (okL okS) x.Reads ∧ (okL WriteT.ok) x.Writes ∧ okT x.Yes
def RecT.w (x : RecT) : Nat := wL List.length x.Reads + wL WriteT.w x.Writes
theorem RecT.same {x y : RecT} (hKind : x.Kind = y.Kind) (hTxn : x.Txn = y.Txn) (hTime : x.Time = y.Time) (hLead : x.Lead = y.Lead) (hReads : x.Reads = y.Reads) (hWrites : x.Writes = y.Writes) (hYes : x.Yes = y.Yes) : x = y := by cases x; cases y; simp_all
theorem open_Rec : ∀ n cs, Sh Tryz.prog n 31 cs → ∃ x : RecT, cs = RecT.cells x ∧ RecT.ok x := by
  intro n cs h
  cases n with
  | zero => unfold Sh at h; exact h.elim
  | succ n =>
    unfold Sh at h
    rw [Tryz.underlying31] at h
    simp only [ShL] at h
    obtain ⟨y0, z0, rfl, g0, y1, z1, rfl, g1, y2, z2, rfl, g2, y3, z3, rfl, g3, y4, z4, rfl, g4, y5, z5, rfl, g5, y6, z6, rfl, g6, rfl⟩ := h
    obtain ⟨x0, rfl, o0⟩ := open_int Tryz.underlying3 _ _ g0
    obtain ⟨x1, rfl, o1⟩ := open_int Tryz.underlying3 _ _ g1
    obtain ⟨x2, rfl, o2⟩ := open_int Tryz.underlying3 _ _ g2
    obtain ⟨x3, rfl, o3⟩ := open_int Tryz.underlying3 _ _ g3
    obtain ⟨x4, rfl, o4⟩ := open_list Tryz.underlying28 (open_str Tryz.underlying9) _ _ g4
    obtain ⟨x5, rfl, o5⟩ := open_list Tryz.underlying29 (open_Write) _ _ g5
    obtain ⟨x6, rfl, o6⟩ := open_bool Tryz.underlying4 _ _ g6
    exact ⟨⟨x0, x1, x2, x3, x4, x5, x6⟩, rfl, o0, o1, o2, o3, o4, o5, o6⟩
def RecT.shp : List Shp := [.leaf, .leaf, .leaf, .leaf, .sl 9 1 [.leaf], .sl 154 3 WriteT.shp, .leaf]
def RecT.mkM (x : RecT) (k : Int) : RecT := ⟨k, k + 1, k + 1 + 1, k + 1 + 1 + 1, mkL mkStr cnt1 x.Reads (k + 1 + 1 + 1 + 1), mkL WriteT.mkM WriteT.cnt x.Writes (k + 1 + 1 + 1 + 1 + (cntL cnt1 x.Reads : Int)), ((k + 1 + 1 + 1 + 1 + (cntL cnt1 x.Reads : Int) + (cntL WriteT.cnt x.Writes : Int)).tmod 3 == 0)⟩
def RecT.cnt (x : RecT) : Nat := 1 + 1 + 1 + 1 + cntL cnt1 x.Reads + cntL WriteT.cnt x.Writes + 1
def RecT.mkS (x : RecT) (k : Int) : RecT := ⟨x.Kind, x.Txn, x.Time, x.Lead, mkL mkStr cnt1 x.Reads k, mkL WriteT.mkM WriteT.cnt x.Writes (k + (cntL cnt1 x.Reads : Int)), x.Yes⟩
def RecT.cntS (x : RecT) (k : Int) : Int := k + (cntL cnt1 x.Reads : Int) + (cntL WriteT.cnt x.Writes : Int)
theorem RecT.cnt_w (x : RecT) : RecT.cnt x ≤ 100 * (1 + RecT.w x) := by
  have h0 := cntL_w100 (cnt := cnt1) (w := List.length) (fun _ => one_w100) x.Reads
  have h1 := cntL_w100 (cnt := WriteT.cnt) (w := WriteT.w) (fun y => WriteT.cnt_w y) x.Writes
  simp only [RecT.cnt, RecT.w] at *
  omega
theorem RecT.cntS_w (x : RecT) (k : Int) : RecT.cntS x k ≤ k + 100 * (1 + (RecT.w x : Int)) := by
  have h0 := cntL_w100 (cnt := cnt1) (w := List.length) (fun _ => one_w100) x.Reads
  have h1 := cntL_w100 (cnt := WriteT.cnt) (w := WriteT.w) (fun y => WriteT.cnt_w y) x.Writes
  simp only [RecT.cntS, RecT.cnt, RecT.w] at *
  omega
theorem c_laws_szRec (x : RecT) (n : Int) (h0 : 0 ≤ n) (h1 : n ≤ 1048576) (hok : x.ok) : PC Tryz.prog false 38 [.agg x.cells, .int .i64 n] (.int .i64 (szN n x.w)) [] := by
  have oReads : (okL okS) x.Reads := hok.2.2.2.2.1
  have oWrites : (okL WriteT.ok) x.Writes := hok.2.2.2.2.2.1
  have hw : x.w = wL List.length x.Reads + wL WriteT.w x.Writes := rfl
  refine pc_at Tryz.func38 rfl (by kernel_rfl) 18 [.tmp 4] rfl rfl ?_
  repeat' (conv => whnf); first
 | refine nameB_true ?_
 | refine nameB_dno (by assumption) ?_
 | refine splitB_true ?_
 | refine splitB_false ?_
 | (by_cases hn0 : n - ((wL List.length x.Reads : Nat) : Int) < 0 <;> first | refine Call0 (pc_szneg (c_laws_szStringS x.Reads n (by (try simp only [i64_wrap_eq] at *); omega) (by (try simp only [i64_wrap_eq] at *); omega) oReads) hn0) rfl rfl ?_ | refine Call0 (pc_szpos (c_laws_szStringS x.Reads n (by (try simp only [i64_wrap_eq] at *); omega) (by (try simp only [i64_wrap_eq] at *); omega) oReads) hn0) rfl rfl ?_)
 | (by_cases hn1 : (n - ((wL List.length x.Reads : Nat) : Int)) - ((wL WriteT.w x.Writes : Nat) : Int) < 0 <;> first | refine Call0 (pc_szneg (c_laws_szWriteS x.Writes (n - ((wL List.length x.Reads : Nat) : Int)) (by (try simp only [i64_wrap_eq] at *); omega) (by (try simp only [i64_wrap_eq] at *); omega) oWrites) hn1) rfl rfl ?_ | refine Call0 (pc_szpos (c_laws_szWriteS x.Writes (n - ((wL List.length x.Reads : Nat) : Int)) (by (try simp only [i64_wrap_eq] at *); omega) (by (try simp only [i64_wrap_eq] at *); omega) oWrites) hn1) rfl rfl ?_)
 | refine side_and (side_of (by first | exact Nat.le_of_ble_eq_true rfl | exact rfl | omega | fail)) ?_
 | fail
  all_goals
    conv => whnf
    refine OutA_plain rfl rfl ?_
    refine congrArg (AV.int .i64) ?_
    (try simp only [i64_wrap_eq] at *)
    first | exact szN_neg (by omega) | exact szN_pos (by omega) (by omega)
theorem c_laws_toRec (x : RecT) (hw : RecT.w x ≤ 1048576) : PC Tryz.prog false 40 [.agg x.cells] (.agg [.int .i64 x.Kind, .int .i64 x.Txn, .int .i64 x.Time, .int .i64 x.Lead, .own 0, .own 1, .bool x.Yes]) [⟨.deep [.leaf], 9, 1, (x.Reads.map strC)⟩, ⟨.deep WriteT.shp, 154, 3, (x.Writes.map WriteT.cells)⟩] := by
  have hw2 : x.w = wL List.length x.Reads + wL WriteT.w x.Writes := rfl
  refine pc_at Tryz.func40 rfl (by kernel_rfl) 28 [.cell 2 47] rfl rfl ?_
  repeat' (conv => whnf); first
 | refine nameB_self (b := x.Yes) ?_
 | refine CallF (c_laws_toStringS x.Reads (by omega)) rfl rfl rfl (Nat.le_of_ble_eq_true rfl) ?_
 | refine CallF (c_laws_toWriteS x.Writes (by omega)) rfl rfl rfl (Nat.le_of_ble_eq_true rfl) ?_
 | refine side_and (side_of (by first | exact ⟨Nat.le_of_ble_eq_true rfl, rfl⟩ | fail)) ?_
 | refine side_and (side_of (by first | exact Nat.le_of_ble_eq_true rfl | exact rfl | omega | fail)) ?_
 | refine side_and (side_of (by first | (and_intros <;> first | rfl | omega | exact Nat.le_of_ble_eq_true rfl) | fail)) ?_
 | fail
  all_goals
    conv => whnf
    exact OutA_deep rfl rfl rfl ⟨⟨rfl, rfl⟩, ⟨⟨rfl, rfl⟩, trivial⟩⟩ rfl
theorem c_laws_toRec_ro (x : RecT) (hw : RecT.w x ≤ 1048576) : PC Tryz.prog true 40 [.agg x.cells] (.agg x.cells) [] := by
  have hw2 : x.w = wL List.length x.Reads + wL WriteT.w x.Writes := rfl
  refine pc_at Tryz.func40 rfl (by kernel_rfl) 28 [.cell 2 47] rfl rfl ?_
  repeat' (conv => whnf); first
 | refine nameB_self (b := x.Yes) ?_
 | refine CallF (c_laws_toStringS x.Reads (by omega)) rfl rfl rfl (Nat.le_of_ble_eq_true rfl) ?_
 | refine CallF (c_laws_toWriteS x.Writes (by omega)) rfl rfl rfl (Nat.le_of_ble_eq_true rfl) ?_
 | refine side_and (side_of (by first | exact ⟨Nat.le_of_ble_eq_true rfl, rfl⟩ | fail)) ?_
 | refine side_and (side_of (by first | exact Nat.le_of_ble_eq_true rfl | exact rfl | omega | fail)) ?_
 | refine side_and (side_of (by first | (and_intros <;> first | rfl | omega | exact Nat.le_of_ble_eq_true rfl) | fail)) ?_
 | fail
  all_goals
    conv => whnf
    refine OutA_frz [24608, 28704] ?_
    conv => whnf
    exact OutA_plain rfl rfl rfl
theorem c_laws_eqRec (x y : RecT) (hok : x.ok) : PC Tryz.prog false 42 [.agg x.cells, .agg y.cells] (.bool (decide (x = y))) [] := by
  refine pc_at Tryz.func42 rfl (by kernel_rfl) 42 [.tmp 4] rfl rfl ?_
  repeat' (conv => whnf); first
 | refine nameB_self (b := x.Yes) ?_
 | refine nameB_self (b := y.Yes) ?_
 | refine nameB_true ?_
 | refine nameB_false ?_
 | (refine nameB_dec (fun h => ?_) (fun h => ?_) <;> try simp only [lensB] at h)
 | (refine nameB_cases (fun h => ?_) (fun h => ?_) <;> try simp only [nmL, lensB] at h)
 | refine splitB_true ?_
 | refine splitB_false ?_
 | refine Call0 (c_laws_eqStringS x.Reads y.Reads (hok.2.2.2.2.1)) rfl rfl ?_
 | refine Call0 (c_laws_eqWriteS x.Writes y.Writes (hok.2.2.2.2.2.1)) rfl rfl ?_
 | refine side_and (side_of (by first | exact Nat.le_of_ble_eq_true rfl | exact rfl | omega | fail)) ?_
 | fail
  all_goals
    conv => whnf
    refine OutA_plain rfl rfl ?_
    first
    | exact bool_no (fun e => absurd (congrArg RecT.Kind e) (by assumption))
    | exact bool_no (fun e => absurd (congrArg RecT.Txn e) (by assumption))
    | exact bool_no (fun e => absurd (congrArg RecT.Time e) (by assumption))
    | exact bool_no (fun e => absurd (congrArg RecT.Lead e) (by assumption))
    | exact bool_no (fun e => absurd (congrArg RecT.Reads e) (by assumption))
    | exact bool_no (fun e => absurd (congrArg RecT.Writes e) (by assumption))
    | exact bool_no (fun e => absurd (congrArg RecT.Yes e) (by assumption))
    | exact bool_yes (RecT.same (by assumption) (by assumption) (by assumption) (by assumption) (by assumption) (by assumption) (by assumption))
theorem m_laws_markRec (x : RecT) (k : Int) (h0 : 0 ≤ k) (h1 : RecT.cntS x k ≤ 1152921504606846976) : MC Tryz.prog 43 true x.cells RecT.shp k (RecT.mkS x k).cells (RecT.cntS x k) := by
  have hcx : RecT.cntS x k = k + (cntL cnt1 x.Reads : Int) + (cntL WriteT.cnt x.Writes : Int) := rfl
  refine mc_of Tryz.func43 rfl (by kernel_rfl) 14 [.tmp 4] [.int .i64 x.Kind, .int .i64 x.Txn, .int .i64 x.Time, .int .i64 x.Lead, .own 0, .own 1, .bool x.Yes] rfl rfl (fun e => by first | rfl | cases e) rfl rfl ?_
  repeat' (conv => whnf); first
 | refine CallM1 (m_laws_markStringS x.Reads k (by omega) (by omega) (by have hll := cntL_len_leaf x.Reads; omega)) [] trivial rfl rfl ?_
 | refine CallM1 (m_laws_markWriteS x.Writes (k + (cntL cnt1 x.Reads : Int)) (by omega) (by omega) (by have hll := cntL_len_Write x.Writes; omega)) [] trivial rfl rfl ?_
 | refine side_and (side_of (by first | exact Nat.le_of_ble_eq_true rfl | exact rfl | omega | fail)) ?_
 | fail
  all_goals
    conv => whnf
    exact OutM_of (by rfl) (by rfl) (by rfl) (by rfl) (by rfl)
structure HeldT where
  Txn : Int
  Time : Int
  Lead : Int
  Reads : List (List UInt8)
  Writes : List WriteT
deriving DecidableEq
def HeldT.cells (x : HeldT) : List AV := [.int .i64 x.Txn, .int .i64 x.Time, .int .i64 x.Lead, .sl (x.Reads.map strC), .sl (x.Writes.map WriteT.cells)]
def HeldT.ok (x : HeldT) : Prop := okT x.Txn ∧ okT x.Time ∧ okT x.Lead ∧ (okL okS) x.Reads ∧ (okL WriteT.ok) x.Writes
def HeldT.w (x : HeldT) : Nat := wL List.length x.Reads + wL WriteT.w x.Writes
theorem HeldT.same {x y : HeldT} (hTxn : x.Txn = y.Txn) (hTime : x.Time = y.Time) (hLead : x.Lead = y.Lead) (hReads : x.Reads = y.Reads) (hWrites : x.Writes = y.Writes) : x = y := by cases x; cases y; simp_all
def HeldT.shp : List Shp := [.leaf, .leaf, .leaf, .sl 9 1 [.leaf], .sl 154 3 WriteT.shp]
def HeldT.mkM (x : HeldT) (k : Int) : HeldT := ⟨k, k + 1, k + 1 + 1, mkL mkStr cnt1 x.Reads (k + 1 + 1 + 1), mkL WriteT.mkM WriteT.cnt x.Writes (k + 1 + 1 + 1 + (cntL cnt1 x.Reads : Int))⟩
def HeldT.cnt (x : HeldT) : Nat := 1 + 1 + 1 + cntL cnt1 x.Reads + cntL WriteT.cnt x.Writes
def HeldT.mkS (x : HeldT) (k : Int) : HeldT := ⟨x.Txn, x.Time, x.Lead, mkL mkStr cnt1 x.Reads k, mkL WriteT.mkM WriteT.cnt x.Writes (k + (cntL cnt1 x.Reads : Int))⟩
def HeldT.cntS (x : HeldT) (k : Int) : Int := k + (cntL cnt1 x.Reads : Int) + (cntL WriteT.cnt x.Writes : Int)
theorem HeldT.cnt_w (x : HeldT) : HeldT.cnt x ≤ 100 * (1 + HeldT.w x) := by
  have h0 := cntL_w100 (cnt := cnt1) (w := List.length) (fun _ => one_w100) x.Reads
  have h1 := cntL_w100 (cnt := WriteT.cnt) (w := WriteT.w) (fun y => WriteT.cnt_w y) x.Writes
  simp only [HeldT.cnt, HeldT.w] at *
  omega
theorem HeldT.cntS_w (x : HeldT) (k : Int) : HeldT.cntS x k ≤ k + 100 * (1 + (HeldT.w x : Int)) := by
  have h0 := cntL_w100 (cnt := cnt1) (w := List.length) (fun _ => one_w100) x.Reads
  have h1 := cntL_w100 (cnt := WriteT.cnt) (w := WriteT.w) (fun y => WriteT.cnt_w y) x.Writes
  simp only [HeldT.cntS, HeldT.cnt, HeldT.w] at *
  omega
structure ToldT where
  Txn : Int
  Yes : Bool
  Time : Int
deriving DecidableEq
def ToldT.cells (x : ToldT) : List AV := [.int .i64 x.Txn, .bool x.Yes, .int .i64 x.Time]
def ToldT.ok (x : ToldT) : Prop := okT x.Txn ∧ okT x.Yes ∧ okT x.Time
theorem ToldT.same {x y : ToldT} (hTxn : x.Txn = y.Txn) (hYes : x.Yes = y.Yes) (hTime : x.Time = y.Time) : x = y := by cases x; cases y; simp_all
def ToldT.shp : List Shp := [.leaf, .leaf, .leaf]
def ToldT.mkM (x : ToldT) (k : Int) : ToldT := ⟨k, ((k + 1).tmod 3 == 0), k + 1 + 1⟩
def ToldT.cnt (x : ToldT) : Nat := 1 + 1 + 1
theorem ToldT.cnt_w (x : ToldT) : ToldT.cnt x ≤ 100 := by
  exact Nat.le_of_ble_eq_true rfl
structure StateT where
  Floor : Int
  Cells : List CellT
  Held : List HeldT
  Told : List ToldT
deriving DecidableEq
def StateT.cells (x : StateT) : List AV := [.int .i64 x.Floor, .sl (x.Cells.map CellT.cells), .sl (x.Held.map HeldT.cells), .sl (x.Told.map ToldT.cells)]
def StateT.ok (x : StateT) : Prop := okT x.Floor ∧ (okL CellT.ok) x.Cells ∧ (okL HeldT.ok) x.Held ∧ (okL ToldT.ok) x.Told
def StateT.w (x : StateT) : Nat := wL CellT.w x.Cells + wL HeldT.w x.Held + x.Told.length
theorem StateT.same {x y : StateT} (hFloor : x.Floor = y.Floor) (hCells : x.Cells = y.Cells) (hHeld : x.Held = y.Held) (hTold : x.Told = y.Told) : x = y := by cases x; cases y; simp_all
def StateT.mkM (x : StateT) (k : Int) : StateT := ⟨k, mkL CellT.mkM CellT.cnt x.Cells (k + 1), mkL HeldT.mkM HeldT.cnt x.Held (k + 1 + (cntL CellT.cnt x.Cells : Int)), mkL ToldT.mkM ToldT.cnt x.Told (k + 1 + (cntL CellT.cnt x.Cells : Int) + (cntL HeldT.cnt x.Held : Int))⟩
def StateT.cnt (x : StateT) : Nat := 1 + cntL CellT.cnt x.Cells + cntL HeldT.cnt x.Held + cntL ToldT.cnt x.Told
def StateT.mkS (x : StateT) (k : Int) : StateT := ⟨x.Floor, mkL CellT.mkM CellT.cnt x.Cells k, mkL HeldT.mkM HeldT.cnt x.Held (k + (cntL CellT.cnt x.Cells : Int)), mkL ToldT.mkM ToldT.cnt x.Told (k + (cntL CellT.cnt x.Cells : Int) + (cntL HeldT.cnt x.Held : Int))⟩
def StateT.cntS (x : StateT) (k : Int) : Int := k + (cntL CellT.cnt x.Cells : Int) + (cntL HeldT.cnt x.Held : Int) + (cntL ToldT.cnt x.Told : Int)
theorem StateT.cnt_w (x : StateT) : StateT.cnt x ≤ 100 * (1 + StateT.w x) := by
  have h0 := cntL_w100 (cnt := CellT.cnt) (w := CellT.w) (fun y => CellT.cnt_w y) x.Cells
  have h1 := cntL_w100 (cnt := HeldT.cnt) (w := HeldT.w) (fun y => HeldT.cnt_w y) x.Held
  have h2 := cntL_l100 (cnt := ToldT.cnt) (fun y => ToldT.cnt_w y) x.Told
  simp only [StateT.cnt, StateT.w] at *
  omega
theorem StateT.cntS_w (x : StateT) (k : Int) : StateT.cntS x k ≤ k + 100 * (1 + (StateT.w x : Int)) := by
  have h0 := cntL_w100 (cnt := CellT.cnt) (w := CellT.w) (fun y => CellT.cnt_w y) x.Cells
  have h1 := cntL_w100 (cnt := HeldT.cnt) (w := HeldT.w) (fun y => HeldT.cnt_w y) x.Held
  have h2 := cntL_l100 (cnt := ToldT.cnt) (fun y => ToldT.cnt_w y) x.Told
  simp only [StateT.cntS, StateT.cnt, StateT.w] at *
  omega
structure EntryT where
  Term : Int
  Rec : RecT
deriving DecidableEq
def EntryT.cells (x : EntryT) : List AV := [.int .i64 x.Term, .int .i64 x.Rec.Kind, .int .i64 x.Rec.Txn, .int .i64 x.Rec.Time, .int .i64 x.Rec.Lead, .sl (x.Rec.Reads.map strC), .sl (x.Rec.Writes.map WriteT.cells), .bool x.Rec.Yes]
def EntryT.ok (x : EntryT) : Prop := okT x.Term ∧ RecT.ok x.Rec
def EntryT.w (x : EntryT) : Nat := RecT.w x.Rec
theorem EntryT.same {x y : EntryT} (hTerm : x.Term = y.Term) (hRec : x.Rec = y.Rec) : x = y := by cases x; cases y; simp_all
theorem open_Entry : ∀ n cs, Sh Tryz.prog n 213 cs → ∃ x : EntryT, cs = EntryT.cells x ∧ EntryT.ok x := by
  intro n cs h
  cases n with
  | zero => unfold Sh at h; exact h.elim
  | succ n =>
    unfold Sh at h
    rw [Tryz.underlying213] at h
    simp only [ShL] at h
    obtain ⟨y0, z0, rfl, g0, y1, z1, rfl, g1, rfl⟩ := h
    obtain ⟨x0, rfl, o0⟩ := open_int Tryz.underlying3 _ _ g0
    obtain ⟨x1, rfl, o1⟩ := open_Rec _ _ g1
    exact ⟨⟨x0, x1⟩, rfl, o0, o1⟩
def EntryT.shp : List Shp := [.leaf, .leaf, .leaf, .leaf, .leaf, .sl 9 1 [.leaf], .sl 154 3 WriteT.shp, .leaf]
def EntryT.mkM (x : EntryT) (k : Int) : EntryT := ⟨k, ⟨k + 1, k + 1 + 1, k + 1 + 1 + 1, k + 1 + 1 + 1 + 1, mkL mkStr cnt1 x.Rec.Reads (k + 1 + 1 + 1 + 1 + 1), mkL WriteT.mkM WriteT.cnt x.Rec.Writes (k + 1 + 1 + 1 + 1 + 1 + (cntL cnt1 x.Rec.Reads : Int)), ((k + 1 + 1 + 1 + 1 + 1 + (cntL cnt1 x.Rec.Reads : Int) + (cntL WriteT.cnt x.Rec.Writes : Int)).tmod 3 == 0)⟩⟩
def EntryT.cnt (x : EntryT) : Nat := 1 + 1 + 1 + 1 + 1 + cntL cnt1 x.Rec.Reads + cntL WriteT.cnt x.Rec.Writes + 1
theorem cntL_len_Entry (xs : List EntryT) : xs.length ≤ cntL EntryT.cnt xs := by
  induction xs with
  | nil => exact Nat.zero_le _
  | cons x xs ih =>
    simp only [cntL, List.map_cons, List.sum_cons, List.length_cons] at ih ⊢
    have hcx : EntryT.cnt x = 1 + 1 + 1 + 1 + 1 + cntL cnt1 x.Rec.Reads + cntL WriteT.cnt x.Rec.Writes + 1 := rfl
    omega
def EntryT.mkS (x : EntryT) (k : Int) : EntryT := ⟨x.Term, ⟨x.Rec.Kind, x.Rec.Txn, x.Rec.Time, x.Rec.Lead, mkL mkStr cnt1 x.Rec.Reads k, mkL WriteT.mkM WriteT.cnt x.Rec.Writes (k + (cntL cnt1 x.Rec.Reads : Int)), x.Rec.Yes⟩⟩
def EntryT.cntS (x : EntryT) (k : Int) : Int := k + (cntL cnt1 x.Rec.Reads : Int) + (cntL WriteT.cnt x.Rec.Writes : Int)
theorem EntryT.cnt_w (x : EntryT) : EntryT.cnt x ≤ 100 * (1 + EntryT.w x) := by
  have h0 := cntL_w100 (cnt := cnt1) (w := List.length) (fun _ => one_w100) x.Rec.Reads
  have h1 := cntL_w100 (cnt := WriteT.cnt) (w := WriteT.w) (fun y => WriteT.cnt_w y) x.Rec.Writes
  simp only [EntryT.cnt, RecT.cnt, EntryT.w, RecT.w] at *
  omega
theorem EntryT.cntS_w (x : EntryT) (k : Int) : EntryT.cntS x k ≤ k + 100 * (1 + (EntryT.w x : Int)) := by
  have h0 := cntL_w100 (cnt := cnt1) (w := List.length) (fun _ => one_w100) x.Rec.Reads
  have h1 := cntL_w100 (cnt := WriteT.cnt) (w := WriteT.w) (fun y => WriteT.cnt_w y) x.Rec.Writes
  simp only [EntryT.cntS, EntryT.cnt, RecT.cnt, EntryT.w, RecT.w] at *
  omega
theorem c_laws_szEntry (x : EntryT) (n : Int) (h0 : 0 ≤ n) (h1 : n ≤ 1048576) (hok : x.ok) : PC Tryz.prog false 196 [.agg x.cells, .int .i64 n] (.int .i64 (szN n x.w)) [] := by
  have oRec : RecT.ok x.Rec := hok.2
  have hw : x.w = RecT.w x.Rec := rfl
  refine pc_at Tryz.func196 rfl (by kernel_rfl) 12 [.tmp 4] rfl rfl ?_
  repeat' (conv => whnf); first
 | refine nameB_true ?_
 | refine nameB_dno (by assumption) ?_
 | refine splitB_true ?_
 | refine splitB_false ?_
 | ((by_cases hn0 : n - ((RecT.w x.Rec : Nat) : Int) < 0 <;> first | refine Call0 (pc_szneg (c_laws_szRec x.Rec n (by (try simp only [i64_wrap_eq] at *); omega) (by (try simp only [i64_wrap_eq] at *); omega) oRec) hn0) rfl rfl ?_ | refine Call0 (pc_szpos (c_laws_szRec x.Rec n (by (try simp only [i64_wrap_eq] at *); omega) (by (try simp only [i64_wrap_eq] at *); omega) oRec) hn0) rfl rfl ?_))
 | refine side_and (side_of (by first | exact Nat.le_of_ble_eq_true rfl | exact rfl | omega | fail)) ?_
 | fail
  all_goals
    conv => whnf
    refine OutA_plain rfl rfl ?_
    refine congrArg (AV.int .i64) ?_
    (try simp only [i64_wrap_eq] at *)
    first | exact szN_neg (by omega) | exact szN_pos (by omega) (by omega)
theorem c_laws_toEntry (x : EntryT) (hw : EntryT.w x ≤ 1048576) : PC Tryz.prog false 197 [.agg x.cells] (.agg [.int .i64 x.Term, .int .i64 x.Rec.Kind, .int .i64 x.Rec.Txn, .int .i64 x.Rec.Time, .int .i64 x.Rec.Lead, .own 0, .own 1, .bool x.Rec.Yes]) [⟨.deep [.leaf], 9, 1, (x.Rec.Reads.map strC)⟩, ⟨.deep WriteT.shp, 154, 3, (x.Rec.Writes.map WriteT.cells)⟩] := by
  have hw2 : x.w = RecT.w x.Rec := rfl
  refine pc_at Tryz.func197 rfl (by kernel_rfl) 12 [.cell 2 124] rfl rfl ?_
  repeat' (conv => whnf); first
 | refine CallF (c_laws_toRec x.Rec (by omega)) rfl rfl rfl (Nat.le_of_ble_eq_true rfl) ?_
 | refine side_and (side_of (by first | exact ⟨Nat.le_of_ble_eq_true rfl, rfl⟩ | fail)) ?_
 | refine side_and (side_of (by first | exact Nat.le_of_ble_eq_true rfl | exact rfl | omega | fail)) ?_
 | refine side_and (side_of (by first | (and_intros <;> first | rfl | omega | exact Nat.le_of_ble_eq_true rfl) | fail)) ?_
 | fail
  all_goals
    conv => whnf
    exact OutA_deep rfl rfl rfl ⟨⟨rfl, rfl⟩, ⟨⟨rfl, rfl⟩, trivial⟩⟩ rfl
theorem c_laws_eqEntry (x y : EntryT) (hok : x.ok) : PC Tryz.prog false 198 [.agg x.cells, .agg y.cells] (.bool (decide (x = y))) [] := by
  refine pc_at Tryz.func198 rfl (by kernel_rfl) 16 [.tmp 4] rfl rfl ?_
  repeat' (conv => whnf); first
 | refine nameB_true ?_
 | refine nameB_false ?_
 | (refine nameB_dec (fun h => ?_) (fun h => ?_) <;> try simp only [lensB] at h)
 | (refine nameB_cases (fun h => ?_) (fun h => ?_) <;> try simp only [nmL, lensB] at h)
 | refine splitB_true ?_
 | refine splitB_false ?_
 | refine Call0 (c_laws_eqRec x.Rec y.Rec (hok.2)) rfl rfl ?_
 | refine side_and (side_of (by first | exact Nat.le_of_ble_eq_true rfl | exact rfl | omega | fail)) ?_
 | fail
  all_goals
    conv => whnf
    refine OutA_plain rfl rfl ?_
    first
    | exact bool_no (fun e => absurd (congrArg EntryT.Term e) (by assumption))
    | exact bool_no (fun e => absurd (congrArg EntryT.Rec e) (by assumption))
    | exact bool_yes (EntryT.same (by assumption) (by assumption))
theorem c_laws_szEntryS (xs : List EntryT) (n : Int) (h0 : 0 ≤ n) (h1 : n ≤ 1048576) (hok : (okL EntryT.ok) xs) : PC Tryz.prog false 158 [.sl (xs.map EntryT.cells), .int .i64 n] (.int .i64 (szN n (wL EntryT.w xs))) [] := by
  have hl := hok.1
  refine pc_at Tryz.func158 rfl (by kernel_rfl) 27 [.tmp 4] rfl rfl ?_
  repeat' (conv => whnf); first
 | refine nameB_true ?_
 | refine nameB_dno (by assumption) ?_
 | (refine nameB_dec (fun h => ?_) (fun h => ?_) <;> try simp only [lensB] at h)
 | refine splitB_true ?_
 | refine splitB_false ?_
 | ((refine Loop_at [0] [] (Nat × Int) (fun j => match j with | (k, m) => (0 ≤ m ∧ m ≤ 1048576) ∧ m - (((xs.drop k).map EntryT.w).sum : Nat) = n - (wL EntryT.w xs : Nat) ∧ k ≤ xs.length) (fun j => match j with | (k, m) => [(1, .int .i64 m), (5, .int .i64 (k : Nat))]) (fun j => match j with | (k, m) => []) (fun j => match j with | (k, m) => xs.length - k) (0, _) ⟨rfl, by first | (simp_all <;> fail) | rfl | fail, trivial⟩ trivial (by (try dsimp only); first | ((simp only [i64_wrap_eq, List.length_map, wL, List.drop_zero] at *; omega)) | fail) ?_; (conv => whnf); refine side_and (side_of (by first | exact fun ⟨k, m⟩ => rfl | exact fun ⟨k, m⟩ => by simp [headOk, closedE, closedO, closedL, AV.closed, hcap.closed, hasId, AObj.box, BK.ofB])) ?_; rintro ⟨k, m⟩ hT; try dsimp only at hT))
 | (refine Again_of (k + 1, _) ⟨rfl, by first | rfl | exact i64_next (by omega) | (simp_all <;> fail) | fail, trivial⟩ trivial (by first | (and_intros <;> first | rfl | trivial) | fail) (by first | (and_intros <;> first | rfl | trivial) | fail) rfl rfl rfl (by (try dsimp only); first | ((have hs := sum_drop EntryT.w hx; omega)) | fail) (show _ < _ by (try dsimp only); omega))
 | ((by_cases hn : m - (EntryT.w x : Nat) < 0 <;> first | refine Call0 (pc_szneg (c_laws_szEntry x m hT.1.1 hT.1.2 (hok.2 x (List.mem_of_getElem? hx))) hn) rfl rfl ?_ | refine Call0 (pc_szpos (c_laws_szEntry x m hT.1.1 hT.1.2 (hok.2 x (List.mem_of_getElem? hx))) hn) rfl rfl ?_))
 | (refine ix_map (by omega) (by (try simp only [List.length_take]); omega) (fun x hx => ?_); try simp only [Int.toNat_natCast] at hx)
 | refine side_and (side_of (by first | exact Nat.le_of_ble_eq_true rfl | exact rfl | omega | fail)) ?_
 | fail
  all_goals
    conv => whnf
    refine OutA_plain rfl rfl ?_
    refine congrArg (AV.int .i64) ?_
    first
    | (have hs := sum_drop EntryT.w hx; exact szN_neg (by omega))
    | (have hs := sum_end EntryT.w (xs := xs) (k := k) (by omega); exact szN_pos (by omega) (by omega))
    | (have hs : wL EntryT.w xs = xs.length + (xs.map EntryT.w).sum := rfl; simp only [i64_wrap_eq] at *; exact szN_neg (by omega))
theorem c_laws_toEntryS (xs : List EntryT) (hw : wL EntryT.w xs ≤ 1048576) : PC Tryz.prog false 159 [.sl (xs.map EntryT.cells)] (.own 0) [⟨.deep EntryT.shp, 124, 8, xs.map EntryT.cells⟩] := by
  have hl : xs.length ≤ 1048576 := Nat.le_trans wL_len hw
  refine pc_at Tryz.func159 rfl (by kernel_rfl) 23 [.tmp 2] rfl rfl ?_
  repeat' (conv => whnf); first
 | (refine nameB_dec (fun h => ?_) (fun h => ?_) <;> try simp only [lensB] at h)
 | refine splitB_true ?_
 | refine splitB_false ?_
 | ((refine Loop_prom [(4128, EntryT.shp)] ⟨⟨_, _, _, rfl, by first | exact prom_nil | exact prom_rep rfl | exact prom_map (fun _ => rfl) | exact prom_one rfl⟩, trivial⟩ ?_; refine Loop_at [0, 3] [] (Nat) (fun k => True ∧ k ≤ xs.length) (fun k => [(4, .int .i64 (k : Nat))]) (fun k => [(4128, ⟨.deep EntryT.shp, 124, 8, (xs.take k).map EntryT.cells ++ List.replicate (xs.length - k) [.int .i64 0, .int .i64 0, .int .i64 0, .int .i64 0, .int .i64 0, .nil, .nil, .bool false]⟩)]) (fun k => xs.length - k) 0 ⟨by first | (simp_all <;> fail) | rfl | fail, trivial⟩ ⟨by first | rfl | exact congrArg (fun e => some (AObj.mk _ _ _ e)) (set_rep hx) | exact congrArg (fun e => some (AObj.mk _ _ _ e)) start_rep | fail | fail, trivial⟩ (by (try dsimp only); first | trivial | (refine ⟨?_, by omega⟩; simp <;> fail) | (simp <;> fail) | fail) ?_; (conv => whnf); refine side_and (side_of (by first | exact fun k => rfl | exact fun k => by simp [headOk, closedE, closedO, closedL, AV.closed, hcap.closed, hasId, AObj.box, BK.ofB])) ?_; rintro k hT; try dsimp only at hT))
 | (refine Again_of (k + 1) ⟨by first | rfl | exact i64_next (by omega) | (simp_all <;> fail) | fail, trivial⟩ ⟨by first | rfl | exact congrArg (fun e => some (AObj.mk _ _ _ e)) (set_rep hx) | exact congrArg (fun e => some (AObj.mk _ _ _ e)) start_rep | fail | fail, trivial⟩ (by first | (and_intros <;> first | rfl | trivial) | fail) (by first | (and_intros <;> first | rfl | trivial) | fail) rfl rfl rfl (by (try dsimp only); first | (exact ⟨trivial, by omega⟩) | fail) (show _ < _ by (try dsimp only); omega))
 | refine CallF (c_laws_toEntry x (Nat.le_trans (wL_mem (List.mem_of_getElem? hx)).2 hw)) rfl rfl rfl (Nat.le_of_ble_eq_true rfl) ?_
 | (refine ix_map (by omega) (by (try simp only [List.length_take]); omega) (fun x hx => ?_); try simp only [Int.toNat_natCast] at hx)
 | refine side_and (side_of (by first | exact Nat.le_of_ble_eq_true rfl | exact rfl | omega | fail)) ?_
 | refine side_and (side_of (by first | (and_intros <;> first | rfl | omega | exact Nat.le_of_ble_eq_true rfl) | fail)) ?_
 | refine side_and (side_of (by first | (and_intros <;> first | exact Nat.le_of_ble_eq_true rfl | rfl | omega | (simp only [lensB, lensC]; omega) | exact bytes_ok (Nat.le_of_ble_eq_true rfl) (by omega) (by simp only [lensB, lensC]; omega) | exact bytes_okN (Nat.le_of_ble_eq_true rfl) (by simp only [lensB, lensC]; omega)) | fail)) ?_
 | refine StoreD_of rfl rfl rfl ?_
 | refine ix_rep (by simp; omega) (by omega) ?_
 | fail
  all_goals
    conv => whnf
    exact OutA_deep rfl rfl rfl ⟨⟨congrArg (fun e => some (AObj.mk _ _ _ e)) (full_rep (by omega)), rfl⟩, trivial⟩ rfl
theorem c_laws_eqEntryS (xs ys : List EntryT) (hok : (okL EntryT.ok) xs) : PC Tryz.prog false 164 [.sl (xs.map EntryT.cells), .sl (ys.map EntryT.cells)] (.bool (decide (xs = ys))) [] := by
  have hl := hok.1
  refine pc_at Tryz.func164 rfl (by kernel_rfl) 27 [.tmp 4] rfl rfl ?_
  repeat' (conv => whnf); first
 | refine nameB_true ?_
 | refine nameB_false ?_
 | (refine nameB_dec (fun h => ?_) (fun h => ?_) <;> try simp only [lensB] at h)
 | (refine nameB_cases (fun h => ?_) (fun h => ?_) <;> try simp only [nmL, lensB] at h)
 | refine splitB_true ?_
 | refine splitB_false ?_
 | refine draw_text (by kernel_rfl) (by kernel_rfl) (by kernel_rfl) ?_
 | ((refine Loop_at [0, 1] [] (Nat) (fun k => xs.take k = ys.take k ∧ k ≤ xs.length) (fun k => [(5, .int .i64 (k : Nat))]) (fun k => []) (fun k => xs.length - k) 0 ⟨by first | (simp_all <;> fail) | rfl | fail, trivial⟩ trivial (by (try dsimp only); first | trivial | (refine ⟨?_, by omega⟩; simp <;> fail) | (simp <;> fail) | fail) ?_; (conv => whnf); refine side_and (side_of (by first | exact fun k => rfl | exact fun k => by simp [headOk, closedE, closedO, closedL, AV.closed, hcap.closed, hasId, AObj.box, BK.ofB])) ?_; rintro k hT; try dsimp only at hT))
 | (refine Again_of (k + 1) ⟨by first | rfl | exact i64_next (by omega) | (simp_all <;> fail) | fail, trivial⟩ trivial (by first | (and_intros <;> first | rfl | trivial) | fail) (by first | (and_intros <;> first | rfl | trivial) | fail) rfl rfl rfl (by (try dsimp only); first | (exact ⟨take_next hT.1 hx hy (by assumption), by omega⟩) | fail) (show _ < _ by (try dsimp only); omega))
 | refine CallD0 (c_laws_eqEntry x y (hok.2 x (List.mem_of_getElem? hx))) rfl rfl rfl ?_
 | (refine ix_map2 hx (by omega) (by (try simp only [List.length_take]); omega) (fun y hy => ?_); try simp only [Int.toNat_natCast] at hy)
 | (refine ix_map (by omega) (by (try simp only [List.length_take]); omega) (fun x hx => ?_); try simp only [Int.toNat_natCast] at hx)
 | refine side_and (side_of (by first | exact Nat.le_of_ble_eq_true rfl | exact rfl | omega | fail)) ?_
 | refine LoadK_of rfl rfl ?_
 | fail
  all_goals
    conv => whnf
    refine OutA_plain rfl rfl ?_
    first
    | exact bool_no (len_ne (by omega))
    | exact bool_no (get_ne hx hy (by assumption))
    | exact bool_yes (take_all_eq hT.1 (by omega) (by omega))
theorem m_laws_markEntryS (xs : List EntryT) (k : Int) (h0 : 0 ≤ k) (h1 : k + (cntL EntryT.cnt xs : Int) ≤ 1152921504606846976) (hl : xs.length ≤ 1152921504606846976) : MC Tryz.prog 127 false [.sl (xs.map EntryT.cells)] [.sl 124 8 EntryT.shp] k [.sl ((mkL EntryT.mkM EntryT.cnt xs k).map EntryT.cells)] (k + (cntL EntryT.cnt xs : Int)) := by
  refine mc_of Tryz.func127 rfl (by kernel_rfl) 78 [.tmp 4] [.own 0] rfl rfl (fun e => by first | rfl | cases e) rfl rfl ?_
  repeat' (conv => whnf); first
 | refine nameB_self (b := (_ == _)) ?_
 | (show Go.Ab.StoreD _ _ _ 0 _ _ _ _ _; refine StoreD_cut (off := 0) [(0, .own 0), (1, .int .i64 ((k + (cntL EntryT.cnt (xs.take i) : Int)))), (5, .int .i64 (i : Nat))] [(0, ⟨.deep EntryT.shp, 124, 8, (((midL EntryT.mkM EntryT.cnt xs k i).map EntryT.cells).set i [.int .i64 ((k + (cntL EntryT.cnt (xs.take i) : Int))), .int .i64 x.Rec.Kind, .int .i64 x.Rec.Txn, .int .i64 x.Rec.Time, .int .i64 x.Rec.Lead, .sl (x.Rec.Reads.map strC), .sl (x.Rec.Writes.map WriteT.cells), .bool x.Rec.Yes])⟩)] rfl rfl ⟨rfl, (by first | rfl | exact congrArg (AV.int IntKind.i64) (by first | (have hle := cntL_le (cnt := EntryT.cnt) hx; have hcx : EntryT.cnt x = 1 + 1 + 1 + 1 + 1 + cntL cnt1 x.Rec.Reads + cntL WriteT.cnt x.Rec.Writes + 1 := rfl; first | (simp (disch := omega) only [i64w] <;> fail) | (simp (disch := omega) only [i64w]; omega)) | fail) | fail), rfl, trivial⟩ rfl ⟨congrArg (fun l => some (AObj.mk _ _ _ l)) (by first | (have hle := cntL_le (cnt := EntryT.cnt) hx; have hcx : EntryT.cnt x = 1 + 1 + 1 + 1 + 1 + cntL cnt1 x.Rec.Reads + cntL WriteT.cnt x.Rec.Writes + 1 := rfl; (try simp only [List.set_set, Int.toNat_natCast]); refine congrArg (List.set _ _) ?_; ((repeat' refine cells_eq ?_ ?_) <;> first | rfl | (refine congrArg (AV.int IntKind.i64) ?_; simp (disch := omega) only [i64w]; first | done | rfl) | (refine congrArg AV.str (congrArg mText ?_); simp (disch := omega) only [i64w]; first | done | rfl) | (refine congrArg AV.bool ?_; simp (disch := omega) only [i64w]; first | done | rfl) | (refine congrArg AV.sl ?_; simp (disch := omega) only [i64w]; first | done | rfl))) | fail), trivial⟩ rfl rfl ⟨rfl, by simp⟩ ?_)
 | (show Go.Ab.StoreD _ _ _ 1 _ _ _ _ _; refine StoreD_cut (off := 1) [(0, .own 0), (1, .int .i64 ((k + (cntL EntryT.cnt (xs.take i) : Int)) + 1)), (5, .int .i64 (i : Nat))] [(0, ⟨.deep EntryT.shp, 124, 8, (((midL EntryT.mkM EntryT.cnt xs k i).map EntryT.cells).set i [.int .i64 ((k + (cntL EntryT.cnt (xs.take i) : Int))), .int .i64 ((k + (cntL EntryT.cnt (xs.take i) : Int)) + 1), .int .i64 x.Rec.Txn, .int .i64 x.Rec.Time, .int .i64 x.Rec.Lead, .sl (x.Rec.Reads.map strC), .sl (x.Rec.Writes.map WriteT.cells), .bool x.Rec.Yes])⟩)] rfl rfl ⟨rfl, (by first | rfl | exact congrArg (AV.int IntKind.i64) (by first | (have hle := cntL_le (cnt := EntryT.cnt) hx; have hcx : EntryT.cnt x = 1 + 1 + 1 + 1 + 1 + cntL cnt1 x.Rec.Reads + cntL WriteT.cnt x.Rec.Writes + 1 := rfl; first | (simp (disch := omega) only [i64w] <;> fail) | (simp (disch := omega) only [i64w]; omega)) | fail) | fail), rfl, trivial⟩ rfl ⟨congrArg (fun l => some (AObj.mk _ _ _ l)) (by first | (have hle := cntL_le (cnt := EntryT.cnt) hx; have hcx : EntryT.cnt x = 1 + 1 + 1 + 1 + 1 + cntL cnt1 x.Rec.Reads + cntL WriteT.cnt x.Rec.Writes + 1 := rfl; (try simp only [List.set_set, Int.toNat_natCast]); refine congrArg (List.set _ _) ?_; ((repeat' refine cells_eq ?_ ?_) <;> first | rfl | (refine congrArg (AV.int IntKind.i64) ?_; simp (disch := omega) only [i64w]; first | done | rfl) | (refine congrArg AV.str (congrArg mText ?_); simp (disch := omega) only [i64w]; first | done | rfl) | (refine congrArg AV.bool ?_; simp (disch := omega) only [i64w]; first | done | rfl) | (refine congrArg AV.sl ?_; simp (disch := omega) only [i64w]; first | done | rfl))) | fail), trivial⟩ rfl rfl ⟨rfl, by simp⟩ ?_)
 | (show Go.Ab.StoreD _ _ _ 2 _ _ _ _ _; refine StoreD_cut (off := 2) [(0, .own 0), (1, .int .i64 ((k + (cntL EntryT.cnt (xs.take i) : Int)) + 1 + 1)), (5, .int .i64 (i : Nat))] [(0, ⟨.deep EntryT.shp, 124, 8, (((midL EntryT.mkM EntryT.cnt xs k i).map EntryT.cells).set i [.int .i64 ((k + (cntL EntryT.cnt (xs.take i) : Int))), .int .i64 ((k + (cntL EntryT.cnt (xs.take i) : Int)) + 1), .int .i64 ((k + (cntL EntryT.cnt (xs.take i) : Int)) + 1 + 1), .int .i64 x.Rec.Time, .int .i64 x.Rec.Lead, .sl (x.Rec.Reads.map strC), .sl (x.Rec.Writes.map WriteT.cells), .bool x.Rec.Yes])⟩)] rfl rfl ⟨rfl, (by first | rfl | exact congrArg (AV.int IntKind.i64) (by first | (have hle := cntL_le (cnt := EntryT.cnt) hx; have hcx : EntryT.cnt x = 1 + 1 + 1 + 1 + 1 + cntL cnt1 x.Rec.Reads + cntL WriteT.cnt x.Rec.Writes + 1 := rfl; first | (simp (disch := omega) only [i64w] <;> fail) | (simp (disch := omega) only [i64w]; omega)) | fail) | fail), rfl, trivial⟩ rfl ⟨congrArg (fun l => some (AObj.mk _ _ _ l)) (by first | (have hle := cntL_le (cnt := EntryT.cnt) hx; have hcx : EntryT.cnt x = 1 + 1 + 1 + 1 + 1 + cntL cnt1 x.Rec.Reads + cntL WriteT.cnt x.Rec.Writes + 1 := rfl; (try simp only [List.set_set, Int.toNat_natCast]); refine congrArg (List.set _ _) ?_; ((repeat' refine cells_eq ?_ ?_) <;> first | rfl | (refine congrArg (AV.int IntKind.i64) ?_; simp (disch := omega) only [i64w]; first | done | rfl) | (refine congrArg AV.str (congrArg mText ?_); simp (disch := omega) only [i64w]; first | done | rfl) | (refine congrArg AV.bool ?_; simp (disch := omega) only [i64w]; first | done | rfl) | (refine congrArg AV.sl ?_; simp (disch := omega) only [i64w]; first | done | rfl))) | fail), trivial⟩ rfl rfl ⟨rfl, by simp⟩ ?_)
 | (show Go.Ab.StoreD _ _ _ 3 _ _ _ _ _; refine StoreD_cut (off := 3) [(0, .own 0), (1, .int .i64 ((k + (cntL EntryT.cnt (xs.take i) : Int)) + 1 + 1 + 1)), (5, .int .i64 (i : Nat))] [(0, ⟨.deep EntryT.shp, 124, 8, (((midL EntryT.mkM EntryT.cnt xs k i).map EntryT.cells).set i [.int .i64 ((k + (cntL EntryT.cnt (xs.take i) : Int))), .int .i64 ((k + (cntL EntryT.cnt (xs.take i) : Int)) + 1), .int .i64 ((k + (cntL EntryT.cnt (xs.take i) : Int)) + 1 + 1), .int .i64 ((k + (cntL EntryT.cnt (xs.take i) : Int)) + 1 + 1 + 1), .int .i64 x.Rec.Lead, .sl (x.Rec.Reads.map strC), .sl (x.Rec.Writes.map WriteT.cells), .bool x.Rec.Yes])⟩)] rfl rfl ⟨rfl, (by first | rfl | exact congrArg (AV.int IntKind.i64) (by first | (have hle := cntL_le (cnt := EntryT.cnt) hx; have hcx : EntryT.cnt x = 1 + 1 + 1 + 1 + 1 + cntL cnt1 x.Rec.Reads + cntL WriteT.cnt x.Rec.Writes + 1 := rfl; first | (simp (disch := omega) only [i64w] <;> fail) | (simp (disch := omega) only [i64w]; omega)) | fail) | fail), rfl, trivial⟩ rfl ⟨congrArg (fun l => some (AObj.mk _ _ _ l)) (by first | (have hle := cntL_le (cnt := EntryT.cnt) hx; have hcx : EntryT.cnt x = 1 + 1 + 1 + 1 + 1 + cntL cnt1 x.Rec.Reads + cntL WriteT.cnt x.Rec.Writes + 1 := rfl; (try simp only [List.set_set, Int.toNat_natCast]); refine congrArg (List.set _ _) ?_; ((repeat' refine cells_eq ?_ ?_) <;> first | rfl | (refine congrArg (AV.int IntKind.i64) ?_; simp (disch := omega) only [i64w]; first | done | rfl) | (refine congrArg AV.str (congrArg mText ?_); simp (disch := omega) only [i64w]; first | done | rfl) | (refine congrArg AV.bool ?_; simp (disch := omega) only [i64w]; first | done | rfl) | (refine congrArg AV.sl ?_; simp (disch := omega) only [i64w]; first | done | rfl))) | fail), trivial⟩ rfl rfl ⟨rfl, by simp⟩ ?_)
 | (show Go.Ab.StoreD _ _ _ 4 _ _ _ _ _; refine StoreD_cut (off := 4) [(0, .own 0), (1, .int .i64 ((k + (cntL EntryT.cnt (xs.take i) : Int)) + 1 + 1 + 1 + 1)), (5, .int .i64 (i : Nat))] [(0, ⟨.deep EntryT.shp, 124, 8, (((midL EntryT.mkM EntryT.cnt xs k i).map EntryT.cells).set i [.int .i64 ((k + (cntL EntryT.cnt (xs.take i) : Int))), .int .i64 ((k + (cntL EntryT.cnt (xs.take i) : Int)) + 1), .int .i64 ((k + (cntL EntryT.cnt (xs.take i) : Int)) + 1 + 1), .int .i64 ((k + (cntL EntryT.cnt (xs.take i) : Int)) + 1 + 1 + 1), .int .i64 ((k + (cntL EntryT.cnt (xs.take i) : Int)) + 1 + 1 + 1 + 1), .sl (x.Rec.Reads.map strC), .sl (x.Rec.Writes.map WriteT.cells), .bool x.Rec.Yes])⟩)] rfl rfl ⟨rfl, (by first | rfl | exact congrArg (AV.int IntKind.i64) (by first | (have hle := cntL_le (cnt := EntryT.cnt) hx; have hcx : EntryT.cnt x = 1 + 1 + 1 + 1 + 1 + cntL cnt1 x.Rec.Reads + cntL WriteT.cnt x.Rec.Writes + 1 := rfl; first | (simp (disch := omega) only [i64w] <;> fail) | (simp (disch := omega) only [i64w]; omega)) | fail) | fail), rfl, trivial⟩ rfl ⟨congrArg (fun l => some (AObj.mk _ _ _ l)) (by first | (have hle := cntL_le (cnt := EntryT.cnt) hx; have hcx : EntryT.cnt x = 1 + 1 + 1 + 1 + 1 + cntL cnt1 x.Rec.Reads + cntL WriteT.cnt x.Rec.Writes + 1 := rfl; (try simp only [List.set_set, Int.toNat_natCast]); refine congrArg (List.set _ _) ?_; ((repeat' refine cells_eq ?_ ?_) <;> first | rfl | (refine congrArg (AV.int IntKind.i64) ?_; simp (disch := omega) only [i64w]; first | done | rfl) | (refine congrArg AV.str (congrArg mText ?_); simp (disch := omega) only [i64w]; first | done | rfl) | (refine congrArg AV.bool ?_; simp (disch := omega) only [i64w]; first | done | rfl) | (refine congrArg AV.sl ?_; simp (disch := omega) only [i64w]; first | done | rfl))) | fail), trivial⟩ rfl rfl ⟨rfl, by simp⟩ ?_)
 | (show Go.Ab.StoreD _ _ _ 7 _ _ _ _ _; refine StoreD_cut (off := 7) [(0, .own 0), (1, .int .i64 ((k + (cntL EntryT.cnt (xs.take i) : Int)) + 1 + 1 + 1 + 1 + 1 + (cntL cnt1 x.Rec.Reads : Int) + (cntL WriteT.cnt x.Rec.Writes : Int))), (5, .int .i64 (i : Nat))] [(0, ⟨.deep EntryT.shp, 124, 8, (((midL EntryT.mkM EntryT.cnt xs k i).map EntryT.cells).set i [.int .i64 ((k + (cntL EntryT.cnt (xs.take i) : Int))), .int .i64 ((k + (cntL EntryT.cnt (xs.take i) : Int)) + 1), .int .i64 ((k + (cntL EntryT.cnt (xs.take i) : Int)) + 1 + 1), .int .i64 ((k + (cntL EntryT.cnt (xs.take i) : Int)) + 1 + 1 + 1), .int .i64 ((k + (cntL EntryT.cnt (xs.take i) : Int)) + 1 + 1 + 1 + 1), .sl ((mkL mkStr cnt1 x.Rec.Reads ((k + (cntL EntryT.cnt (xs.take i) : Int)) + 1 + 1 + 1 + 1 + 1)).map strC), .sl ((mkL WriteT.mkM WriteT.cnt x.Rec.Writes ((k + (cntL EntryT.cnt (xs.take i) : Int)) + 1 + 1 + 1 + 1 + 1 + (cntL cnt1 x.Rec.Reads : Int))).map WriteT.cells), .bool (((k + (cntL EntryT.cnt (xs.take i) : Int)) + 1 + 1 + 1 + 1 + 1 + (cntL cnt1 x.Rec.Reads : Int) + (cntL WriteT.cnt x.Rec.Writes : Int)).tmod 3 == 0)])⟩)] rfl rfl ⟨rfl, (by first | rfl | exact congrArg (AV.int IntKind.i64) (by first | (have hle := cntL_le (cnt := EntryT.cnt) hx; have hcx : EntryT.cnt x = 1 + 1 + 1 + 1 + 1 + cntL cnt1 x.Rec.Reads + cntL WriteT.cnt x.Rec.Writes + 1 := rfl; first | (simp (disch := omega) only [i64w] <;> fail) | (simp (disch := omega) only [i64w]; omega)) | fail) | fail), rfl, trivial⟩ rfl ⟨congrArg (fun l => some (AObj.mk _ _ _ l)) (by first | (have hle := cntL_le (cnt := EntryT.cnt) hx; have hcx : EntryT.cnt x = 1 + 1 + 1 + 1 + 1 + cntL cnt1 x.Rec.Reads + cntL WriteT.cnt x.Rec.Writes + 1 := rfl; (try simp only [List.set_set, Int.toNat_natCast]); refine congrArg (List.set _ _) ?_; ((repeat' refine cells_eq ?_ ?_) <;> first | rfl | (refine congrArg (AV.int IntKind.i64) ?_; simp (disch := omega) only [i64w]; first | done | rfl) | (refine congrArg AV.str (congrArg mText ?_); simp (disch := omega) only [i64w]; first | done | rfl) | (refine congrArg AV.bool ?_; simp (disch := omega) only [i64w]; first | done | rfl) | (refine congrArg AV.sl ?_; simp (disch := omega) only [i64w]; first | done | rfl))) | fail), trivial⟩ rfl rfl ⟨rfl, by simp⟩ ?_)
 | (refine nameB_dec (fun h => ?_) (fun h => ?_) <;> try simp only [lensB] at h)
 | refine splitB_true ?_
 | refine splitB_false ?_
 | ((refine Loop_at [0] [] (Nat) (fun i => i ≤ xs.length) (fun i => [(1, .int .i64 (k + (cntL EntryT.cnt (xs.take i) : Int))), (5, .int .i64 (i : Nat))]) (fun i => [(0, ⟨.deep EntryT.shp, 124, 8, (midL EntryT.mkM EntryT.cnt xs k i).map EntryT.cells⟩)]) (fun i => xs.length - i) 0 ⟨by first | first | exact cnt0_eq | exact congrArg (AV.int IntKind.i64) (by first | (have hle := cntL_le (cnt := EntryT.cnt) hx; have hcx : EntryT.cnt x = 1 + 1 + 1 + 1 + 1 + cntL cnt1 x.Rec.Reads + cntL WriteT.cnt x.Rec.Writes + 1 := rfl; rw [cntL_take hx]; (try simp (disch := omega) only [i64w]); omega) | fail) | rfl | fail, by first | first | exact cnt0_eq | exact congrArg (AV.int IntKind.i64) (by first | (have hle := cntL_le (cnt := EntryT.cnt) hx; have hcx : EntryT.cnt x = 1 + 1 + 1 + 1 + 1 + cntL cnt1 x.Rec.Reads + cntL WriteT.cnt x.Rec.Writes + 1 := rfl; rw [cntL_take hx]; (try simp (disch := omega) only [i64w]); omega) | fail) | rfl | fail, trivial⟩ ⟨by first | rfl | first | exact congrArg (fun e => some (AObj.mk _ _ _ e)) (congrArg (List.map EntryT.cells) midL_zero.symm) | exact congrArg (fun e => some (AObj.mk _ _ _ e)) (by first | (refine midL_next hx ?_; rfl) | fail) | fail | fail, trivial⟩ (by (try dsimp only); first | (exact Nat.zero_le _) | fail) ?_; (conv => whnf); refine side_and (side_of (by first | exact fun i => rfl | exact fun i => by simp [headOk, closedE, closedO, closedL, AV.closed, hcap.closed, hasId, AObj.box, BK.ofB])) ?_; rintro i hM; try dsimp only at hM))
 | (refine Again_of (i + 1) ⟨by first | first | exact cnt0_eq | exact congrArg (AV.int IntKind.i64) (by first | (have hle := cntL_le (cnt := EntryT.cnt) hx; have hcx : EntryT.cnt x = 1 + 1 + 1 + 1 + 1 + cntL cnt1 x.Rec.Reads + cntL WriteT.cnt x.Rec.Writes + 1 := rfl; rw [cntL_take hx]; (try simp (disch := omega) only [i64w]); omega) | fail) | rfl | fail, by first | rfl | exact i64_next (by omega) | first | exact cnt0_eq | exact congrArg (AV.int IntKind.i64) (by first | (have hle := cntL_le (cnt := EntryT.cnt) hx; have hcx : EntryT.cnt x = 1 + 1 + 1 + 1 + 1 + cntL cnt1 x.Rec.Reads + cntL WriteT.cnt x.Rec.Writes + 1 := rfl; rw [cntL_take hx]; (try simp (disch := omega) only [i64w]); omega) | fail) | fail, trivial⟩ ⟨by first | rfl | first | exact congrArg (fun e => some (AObj.mk _ _ _ e)) (congrArg (List.map EntryT.cells) midL_zero.symm) | exact congrArg (fun e => some (AObj.mk _ _ _ e)) (by first | (refine midL_next hx ?_; rfl) | fail) | fail | fail, trivial⟩ (by first | (and_intros <;> first | rfl | trivial) | fail) (by first | (and_intros <;> first | rfl | trivial) | fail) rfl rfl rfl (by (try dsimp only); first | ((show i + 1 ≤ _; omega)) | fail) (show _ < _ by (try dsimp only); omega))
 | (show Go.Ab.CallA _ _ [_, _] _ _ _ _; refine CallMc_cut (off := 5) (es2 := (((midL EntryT.mkM EntryT.cnt xs k i).map EntryT.cells).set i [.int .i64 ((k + (cntL EntryT.cnt (xs.take i) : Int))), .int .i64 ((k + (cntL EntryT.cnt (xs.take i) : Int)) + 1), .int .i64 ((k + (cntL EntryT.cnt (xs.take i) : Int)) + 1 + 1), .int .i64 ((k + (cntL EntryT.cnt (xs.take i) : Int)) + 1 + 1 + 1), .int .i64 ((k + (cntL EntryT.cnt (xs.take i) : Int)) + 1 + 1 + 1 + 1), .sl ((mkL mkStr cnt1 x.Rec.Reads ((k + (cntL EntryT.cnt (xs.take i) : Int)) + 1 + 1 + 1 + 1 + 1)).map strC), .sl (x.Rec.Writes.map WriteT.cells), .bool x.Rec.Yes])) (k := (k + (cntL EntryT.cnt (xs.take i) : Int)) + 1 + 1 + 1 + 1 + 1) (k' := (k + (cntL EntryT.cnt (xs.take i) : Int)) + 1 + 1 + 1 + 1 + 1 + (cntL cnt1 x.Rec.Reads : Int)) [(0, .own 0), (5, .int .i64 (i : Nat))] (by first | rfl | (have hle := cntL_le (cnt := EntryT.cnt) hx; have hcx : EntryT.cnt x = 1 + 1 + 1 + 1 + 1 + cntL cnt1 x.Rec.Reads + cntL WriteT.cnt x.Rec.Writes + 1 := rfl; first | (simp (disch := omega) only [i64w] <;> fail) | (simp (disch := omega) only [i64w]; omega)) | fail) (m_laws_markStringS x.Rec.Reads ((k + (cntL EntryT.cnt (xs.take i) : Int)) + 1 + 1 + 1 + 1 + 1) (by first | (have hle := cntL_le (cnt := EntryT.cnt) hx; have hcx : EntryT.cnt x = 1 + 1 + 1 + 1 + 1 + cntL cnt1 x.Rec.Reads + cntL WriteT.cnt x.Rec.Writes + 1 := rfl; first | omega | (simp (disch := omega) only [i64w]; omega)) | fail) (by first | (have hle := cntL_le (cnt := EntryT.cnt) hx; have hcx : EntryT.cnt x = 1 + 1 + 1 + 1 + 1 + cntL cnt1 x.Rec.Reads + cntL WriteT.cnt x.Rec.Writes + 1 := rfl; first | omega | (simp (disch := omega) only [i64w]; omega)) | fail) (by first | (have hle := cntL_le (cnt := EntryT.cnt) hx; have hcx : EntryT.cnt x = 1 + 1 + 1 + 1 + 1 + cntL cnt1 x.Rec.Reads + cntL WriteT.cnt x.Rec.Writes + 1 := rfl; have hll := cntL_len_leaf x.Rec.Reads; omega) | fail)) (by rfl) (by first | exact mid_at hx | (refine setN_at ?_; simp only [List.length_set, List.length_map, midL_len]; omega) | fail) (by rfl) ⟨rfl, rfl, trivial⟩ rfl (by first | (have hle := cntL_le (cnt := EntryT.cnt) hx; have hcx : EntryT.cnt x = 1 + 1 + 1 + 1 + 1 + cntL cnt1 x.Rec.Reads + cntL WriteT.cnt x.Rec.Writes + 1 := rfl; (try simp only [List.set_set, Int.toNat_natCast]); refine congrArg (List.set _ _) ?_; ((repeat' refine cells_eq ?_ ?_) <;> first | rfl | (refine congrArg (AV.int IntKind.i64) ?_; simp (disch := omega) only [i64w]; first | done | rfl) | (refine congrArg AV.str (congrArg mText ?_); simp (disch := omega) only [i64w]; first | done | rfl) | (refine congrArg AV.bool ?_; simp (disch := omega) only [i64w]; first | done | rfl) | (refine congrArg AV.sl ?_; simp (disch := omega) only [i64w]; first | done | rfl))) | fail) rfl rfl ?_)
 | (show Go.Ab.CallA _ _ [_, _] _ _ _ _; refine CallMc_cut (off := 6) (es2 := (((midL EntryT.mkM EntryT.cnt xs k i).map EntryT.cells).set i [.int .i64 ((k + (cntL EntryT.cnt (xs.take i) : Int))), .int .i64 ((k + (cntL EntryT.cnt (xs.take i) : Int)) + 1), .int .i64 ((k + (cntL EntryT.cnt (xs.take i) : Int)) + 1 + 1), .int .i64 ((k + (cntL EntryT.cnt (xs.take i) : Int)) + 1 + 1 + 1), .int .i64 ((k + (cntL EntryT.cnt (xs.take i) : Int)) + 1 + 1 + 1 + 1), .sl ((mkL mkStr cnt1 x.Rec.Reads ((k + (cntL EntryT.cnt (xs.take i) : Int)) + 1 + 1 + 1 + 1 + 1)).map strC), .sl ((mkL WriteT.mkM WriteT.cnt x.Rec.Writes ((k + (cntL EntryT.cnt (xs.take i) : Int)) + 1 + 1 + 1 + 1 + 1 + (cntL cnt1 x.Rec.Reads : Int))).map WriteT.cells), .bool x.Rec.Yes])) (k := (k + (cntL EntryT.cnt (xs.take i) : Int)) + 1 + 1 + 1 + 1 + 1 + (cntL cnt1 x.Rec.Reads : Int)) (k' := (k + (cntL EntryT.cnt (xs.take i) : Int)) + 1 + 1 + 1 + 1 + 1 + (cntL cnt1 x.Rec.Reads : Int) + (cntL WriteT.cnt x.Rec.Writes : Int)) [(0, .own 0), (5, .int .i64 (i : Nat))] (by first | rfl | (have hle := cntL_le (cnt := EntryT.cnt) hx; have hcx : EntryT.cnt x = 1 + 1 + 1 + 1 + 1 + cntL cnt1 x.Rec.Reads + cntL WriteT.cnt x.Rec.Writes + 1 := rfl; first | (simp (disch := omega) only [i64w] <;> fail) | (simp (disch := omega) only [i64w]; omega)) | fail) (m_laws_markWriteS x.Rec.Writes ((k + (cntL EntryT.cnt (xs.take i) : Int)) + 1 + 1 + 1 + 1 + 1 + (cntL cnt1 x.Rec.Reads : Int)) (by first | (have hle := cntL_le (cnt := EntryT.cnt) hx; have hcx : EntryT.cnt x = 1 + 1 + 1 + 1 + 1 + cntL cnt1 x.Rec.Reads + cntL WriteT.cnt x.Rec.Writes + 1 := rfl; first | omega | (simp (disch := omega) only [i64w]; omega)) | fail) (by first | (have hle := cntL_le (cnt := EntryT.cnt) hx; have hcx : EntryT.cnt x = 1 + 1 + 1 + 1 + 1 + cntL cnt1 x.Rec.Reads + cntL WriteT.cnt x.Rec.Writes + 1 := rfl; first | omega | (simp (disch := omega) only [i64w]; omega)) | fail) (by first | (have hle := cntL_le (cnt := EntryT.cnt) hx; have hcx : EntryT.cnt x = 1 + 1 + 1 + 1 + 1 + cntL cnt1 x.Rec.Reads + cntL WriteT.cnt x.Rec.Writes + 1 := rfl; have hll := cntL_len_Write x.Rec.Writes; omega) | fail)) (by rfl) (by first | exact mid_at hx | (refine setN_at ?_; simp only [List.length_set, List.length_map, midL_len]; omega) | fail) (by rfl) ⟨rfl, rfl, trivial⟩ rfl (by first | (have hle := cntL_le (cnt := EntryT.cnt) hx; have hcx : EntryT.cnt x = 1 + 1 + 1 + 1 + 1 + cntL cnt1 x.Rec.Reads + cntL WriteT.cnt x.Rec.Writes + 1 := rfl; (try simp only [List.set_set, Int.toNat_natCast]); refine congrArg (List.set _ _) ?_; ((repeat' refine cells_eq ?_ ?_) <;> first | rfl | (refine congrArg (AV.int IntKind.i64) ?_; simp (disch := omega) only [i64w]; first | done | rfl) | (refine congrArg AV.str (congrArg mText ?_); simp (disch := omega) only [i64w]; first | done | rfl) | (refine congrArg AV.bool ?_; simp (disch := omega) only [i64w]; first | done | rfl) | (refine congrArg AV.sl ?_; simp (disch := omega) only [i64w]; first | done | rfl))) | fail) rfl rfl ?_)
 | refine side_and (side_of (by first | exact Nat.le_of_ble_eq_true rfl | exact rfl | omega | fail)) ?_
 | refine side_and (side_of (by first | (and_intros <;> first | rfl | omega | exact Nat.le_of_ble_eq_true rfl) | fail)) ?_
 | refine side_and (side_of (by first | (and_intros <;> first | exact Nat.le_of_ble_eq_true rfl | rfl | omega | (simp only [lensB, lensC]; omega) | exact bytes_ok (Nat.le_of_ble_eq_true rfl) (by omega) (by simp only [lensB, lensC]; omega) | exact bytes_okN (Nat.le_of_ble_eq_true rfl) (by simp only [lensB, lensC]; omega)) | fail)) ?_
 | refine LoadD_cel rfl rfl rfl rfl ?_
 | refine ix_setN (by simp only [List.length_set, List.length_map, midL_len]; omega) ?_
 | refine ix_mid (by omega) (fun x hx => ?_)
 | fail
  all_goals
    conv => whnf
    refine OutM_of (by rfl) (by rfl) (by rfl) ?_ ?_
    · exact congrArg (fun n : Nat => AV.int .i64 (k + (n : Int))) (cntL_end (by omega))
    · exact congrArg (fun l => [AV.sl (List.map EntryT.cells l)]) (midL_end (by omega))
theorem c_laws_heldEntryS (xs : List EntryT) (k : Int) (h0 : 0 ≤ k) (h1 : k + (cntL EntryT.cnt xs : Int) ≤ 1152921504606846976) (hl : xs.length ≤ 1152921504606846976) : PC Tryz.prog false 128 [.sl ((mkL EntryT.mkM EntryT.cnt xs k).map EntryT.cells), .int .i64 k] (.int .i64 (k + (cntL EntryT.cnt xs : Int))) [] := by
  refine pc_at Tryz.func128 rfl (by kernel_rfl) 94 [.tmp 4] rfl rfl ?_
  repeat' (conv => whnf); first
 | refine ix_mk_at hx ?_
 | refine ix_mk (i := i) rfl (by omega) (fun x hx => ?_)
 | refine nameB_no (by first | (have hle := cntL_le (cnt := EntryT.cnt) hx; have hcx : EntryT.cnt x = 1 + 1 + 1 + 1 + 1 + cntL cnt1 x.Rec.Reads + cntL WriteT.cnt x.Rec.Writes + 1 := rfl; simp (disch := omega) only [i64w, bne_self_eq_false, beq_self_eq_true, Bool.not_true] <;> fail) | fail) ?_
 | refine nameB_no (held_no (by first | (have hle := cntL_le (cnt := EntryT.cnt) hx; have hcx : EntryT.cnt x = 1 + 1 + 1 + 1 + 1 + cntL cnt1 x.Rec.Reads + cntL WriteT.cnt x.Rec.Writes + 1 := rfl; first | rfl | (simp (disch := omega) only [i64w] <;> fail) | (simp (disch := omega) only [i64w]; rfl)) | fail)) ?_
 | refine nameB_self (b := (_ == _)) ?_
 | refine nameB_no (b := decide (_ < (0 : Int))) (by first | (have hle := cntL_le (cnt := EntryT.cnt) hx; have hcx : EntryT.cnt x = 1 + 1 + 1 + 1 + 1 + cntL cnt1 x.Rec.Reads + cntL WriteT.cnt x.Rec.Writes + 1 := rfl; exact decide_eq_false (by omega)) | fail) ?_
 | (refine nameB_dec (fun h => ?_) (fun h => ?_) <;> try simp only [lensB] at h)
 | refine splitB_true ?_
 | refine splitB_false ?_
 | ((refine Loop_at [0] [] (Nat) (fun i => i ≤ xs.length) (fun i => [(1, .int .i64 (k + (cntL EntryT.cnt (xs.take i) : Int))), (5, .int .i64 (i : Nat))]) (fun i => []) (fun i => xs.length - i) 0 ⟨by first | first | exact cnt0_eq | exact congrArg (AV.int IntKind.i64) (by first | (have hle := cntL_le (cnt := EntryT.cnt) hx; have hcx : EntryT.cnt x = 1 + 1 + 1 + 1 + 1 + cntL cnt1 x.Rec.Reads + cntL WriteT.cnt x.Rec.Writes + 1 := rfl; rw [cntL_take hx]; (try simp (disch := omega) only [i64w]); omega) | fail) | rfl | fail, by first | first | exact cnt0_eq | exact congrArg (AV.int IntKind.i64) (by first | (have hle := cntL_le (cnt := EntryT.cnt) hx; have hcx : EntryT.cnt x = 1 + 1 + 1 + 1 + 1 + cntL cnt1 x.Rec.Reads + cntL WriteT.cnt x.Rec.Writes + 1 := rfl; rw [cntL_take hx]; (try simp (disch := omega) only [i64w]); omega) | fail) | rfl | fail, trivial⟩ trivial (by (try dsimp only); first | (exact Nat.zero_le _) | fail) ?_; (conv => whnf); refine side_and (side_of (by first | exact fun i => rfl | exact fun i => by simp [headOk, closedE, closedO, closedL, AV.closed, hcap.closed, hasId, AObj.box, BK.ofB])) ?_; rintro i hM; try dsimp only at hM))
 | (refine Again_of (i + 1) ⟨by first | first | exact cnt0_eq | exact congrArg (AV.int IntKind.i64) (by first | (have hle := cntL_le (cnt := EntryT.cnt) hx; have hcx : EntryT.cnt x = 1 + 1 + 1 + 1 + 1 + cntL cnt1 x.Rec.Reads + cntL WriteT.cnt x.Rec.Writes + 1 := rfl; rw [cntL_take hx]; (try simp (disch := omega) only [i64w]); omega) | fail) | rfl | fail, by first | rfl | exact i64_next (by omega) | first | exact cnt0_eq | exact congrArg (AV.int IntKind.i64) (by first | (have hle := cntL_le (cnt := EntryT.cnt) hx; have hcx : EntryT.cnt x = 1 + 1 + 1 + 1 + 1 + cntL cnt1 x.Rec.Reads + cntL WriteT.cnt x.Rec.Writes + 1 := rfl; rw [cntL_take hx]; (try simp (disch := omega) only [i64w]); omega) | fail) | fail, trivial⟩ trivial (by first | (and_intros <;> first | rfl | trivial) | fail) (by first | (and_intros <;> first | rfl | trivial) | fail) rfl rfl rfl (by (try dsimp only); first | ((show i + 1 ≤ _; omega)) | fail) (show _ < _ by (try dsimp only); omega))
 | refine Call0 (c_laws_heldStringS x.Rec.Reads (k + (cntL EntryT.cnt (xs.take i) : Int) + 1 + 1 + 1 + 1 + 1) (by first | (have hle := cntL_le (cnt := EntryT.cnt) hx; have hcx : EntryT.cnt x = 1 + 1 + 1 + 1 + 1 + cntL cnt1 x.Rec.Reads + cntL WriteT.cnt x.Rec.Writes + 1 := rfl; first | omega | (simp (disch := omega) only [i64w]; omega)) | fail) (by first | (have hle := cntL_le (cnt := EntryT.cnt) hx; have hcx : EntryT.cnt x = 1 + 1 + 1 + 1 + 1 + cntL cnt1 x.Rec.Reads + cntL WriteT.cnt x.Rec.Writes + 1 := rfl; first | omega | (simp (disch := omega) only [i64w]; omega)) | fail) (by first | (have hle := cntL_le (cnt := EntryT.cnt) hx; have hcx : EntryT.cnt x = 1 + 1 + 1 + 1 + 1 + cntL cnt1 x.Rec.Reads + cntL WriteT.cnt x.Rec.Writes + 1 := rfl; have hll := cntL_len_leaf x.Rec.Reads; omega) | fail)) (congrArg (fun z => [AV.sl _, AV.int .i64 z]) (by first | (have hle := cntL_le (cnt := EntryT.cnt) hx; have hcx : EntryT.cnt x = 1 + 1 + 1 + 1 + 1 + cntL cnt1 x.Rec.Reads + cntL WriteT.cnt x.Rec.Writes + 1 := rfl; first | rfl | (simp (disch := omega) only [i64w] <;> fail) | (simp (disch := omega) only [i64w]; rfl)) | fail)) rfl ?_
 | refine Call0 (c_laws_heldWriteS x.Rec.Writes (k + (cntL EntryT.cnt (xs.take i) : Int) + 1 + 1 + 1 + 1 + 1 + (cntL cnt1 x.Rec.Reads : Int)) (by first | (have hle := cntL_le (cnt := EntryT.cnt) hx; have hcx : EntryT.cnt x = 1 + 1 + 1 + 1 + 1 + cntL cnt1 x.Rec.Reads + cntL WriteT.cnt x.Rec.Writes + 1 := rfl; first | omega | (simp (disch := omega) only [i64w]; omega)) | fail) (by first | (have hle := cntL_le (cnt := EntryT.cnt) hx; have hcx : EntryT.cnt x = 1 + 1 + 1 + 1 + 1 + cntL cnt1 x.Rec.Reads + cntL WriteT.cnt x.Rec.Writes + 1 := rfl; first | omega | (simp (disch := omega) only [i64w]; omega)) | fail) (by first | (have hle := cntL_le (cnt := EntryT.cnt) hx; have hcx : EntryT.cnt x = 1 + 1 + 1 + 1 + 1 + cntL cnt1 x.Rec.Reads + cntL WriteT.cnt x.Rec.Writes + 1 := rfl; have hll := cntL_len_Write x.Rec.Writes; omega) | fail)) (congrArg (fun z => [AV.sl _, AV.int .i64 z]) (by first | (have hle := cntL_le (cnt := EntryT.cnt) hx; have hcx : EntryT.cnt x = 1 + 1 + 1 + 1 + 1 + cntL cnt1 x.Rec.Reads + cntL WriteT.cnt x.Rec.Writes + 1 := rfl; first | rfl | (simp (disch := omega) only [i64w] <;> fail) | (simp (disch := omega) only [i64w]; rfl)) | fail)) rfl ?_
 | refine side_and (side_of (by first | exact Nat.le_of_ble_eq_true rfl | exact rfl | omega | fail)) ?_
 | fail
  all_goals
    conv => whnf
    refine OutA_plain rfl rfl ?_
    first
    | exact congrArg (fun n : Nat => AV.int .i64 (k + (n : Int))) (cntL_end (by omega))
    | (exfalso; omega)
structure ReplicaT where
  Up : Bool
  Log : List EntryT
  Sure : Int
deriving DecidableEq
def ReplicaT.cells (x : ReplicaT) : List AV := [.bool x.Up, .sl (x.Log.map EntryT.cells), .int .i64 x.Sure]
def ReplicaT.ok (x : ReplicaT) : Prop := okT x.Up ∧ (okL EntryT.ok) x.Log ∧ okT x.Sure
def ReplicaT.w (x : ReplicaT) : Nat := wL EntryT.w x.Log
theorem ReplicaT.same {x y : ReplicaT} (hUp : x.Up = y.Up) (hLog : x.Log = y.Log) (hSure : x.Sure = y.Sure) : x = y := by cases x; cases y; simp_all
theorem open_Replica : ∀ n cs, Sh Tryz.prog n 163 cs → ∃ x : ReplicaT, cs = ReplicaT.cells x ∧ ReplicaT.ok x := by
  intro n cs h
  cases n with
  | zero => unfold Sh at h; exact h.elim
  | succ n =>
    unfold Sh at h
    rw [Tryz.underlying163] at h
    simp only [ShL] at h
    obtain ⟨y0, z0, rfl, g0, y1, z1, rfl, g1, y2, z2, rfl, g2, rfl⟩ := h
    obtain ⟨x0, rfl, o0⟩ := open_bool Tryz.underlying4 _ _ g0
    obtain ⟨x1, rfl, o1⟩ := open_list Tryz.underlying161 (open_Entry) _ _ g1
    obtain ⟨x2, rfl, o2⟩ := open_int Tryz.underlying3 _ _ g2
    exact ⟨⟨x0, x1, x2⟩, rfl, o0, o1, o2⟩
def ReplicaT.shp : List Shp := [.leaf, .sl 124 8 EntryT.shp, .leaf]
def ReplicaT.mkM (x : ReplicaT) (k : Int) : ReplicaT := ⟨(k.tmod 3 == 0), mkL EntryT.mkM EntryT.cnt x.Log (k + 1), k + 1 + (cntL EntryT.cnt x.Log : Int)⟩
def ReplicaT.cnt (x : ReplicaT) : Nat := 1 + cntL EntryT.cnt x.Log + 1
theorem cntL_len_Replica (xs : List ReplicaT) : xs.length ≤ cntL ReplicaT.cnt xs := by
  induction xs with
  | nil => exact Nat.zero_le _
  | cons x xs ih =>
    simp only [cntL, List.map_cons, List.sum_cons, List.length_cons] at ih ⊢
    have hcx : ReplicaT.cnt x = 1 + cntL EntryT.cnt x.Log + 1 := rfl
    omega
def ReplicaT.mkS (x : ReplicaT) (k : Int) : ReplicaT := ⟨x.Up, mkL EntryT.mkM EntryT.cnt x.Log k, x.Sure⟩
def ReplicaT.cntS (x : ReplicaT) (k : Int) : Int := k + (cntL EntryT.cnt x.Log : Int)
theorem ReplicaT.cnt_w (x : ReplicaT) : ReplicaT.cnt x ≤ 100 * (1 + ReplicaT.w x) := by
  have h0 := cntL_w100 (cnt := EntryT.cnt) (w := EntryT.w) (fun y => EntryT.cnt_w y) x.Log
  simp only [ReplicaT.cnt, ReplicaT.w] at *
  omega
theorem ReplicaT.cntS_w (x : ReplicaT) (k : Int) : ReplicaT.cntS x k ≤ k + 100 * (1 + (ReplicaT.w x : Int)) := by
  have h0 := cntL_w100 (cnt := EntryT.cnt) (w := EntryT.w) (fun y => EntryT.cnt_w y) x.Log
  simp only [ReplicaT.cntS, ReplicaT.cnt, ReplicaT.w] at *
  omega
theorem c_laws_szReplica (x : ReplicaT) (n : Int) (h0 : 0 ≤ n) (h1 : n ≤ 1048576) (hok : x.ok) : PC Tryz.prog false 119 [.agg x.cells, .int .i64 n] (.int .i64 (szN n x.w)) [] := by
  have oLog : (okL EntryT.ok) x.Log := hok.2.1
  have hw : x.w = wL EntryT.w x.Log := rfl
  refine pc_at Tryz.func119 rfl (by kernel_rfl) 12 [.tmp 4] rfl rfl ?_
  repeat' (conv => whnf); first
 | refine nameB_true ?_
 | refine nameB_dno (by assumption) ?_
 | refine splitB_true ?_
 | refine splitB_false ?_
 | ((by_cases hn0 : n - ((wL EntryT.w x.Log : Nat) : Int) < 0 <;> first | refine Call0 (pc_szneg (c_laws_szEntryS x.Log n (by (try simp only [i64_wrap_eq] at *); omega) (by (try simp only [i64_wrap_eq] at *); omega) oLog) hn0) rfl rfl ?_ | refine Call0 (pc_szpos (c_laws_szEntryS x.Log n (by (try simp only [i64_wrap_eq] at *); omega) (by (try simp only [i64_wrap_eq] at *); omega) oLog) hn0) rfl rfl ?_))
 | refine side_and (side_of (by first | exact Nat.le_of_ble_eq_true rfl | exact rfl | omega | fail)) ?_
 | fail
  all_goals
    conv => whnf
    refine OutA_plain rfl rfl ?_
    refine congrArg (AV.int .i64) ?_
    (try simp only [i64_wrap_eq] at *)
    first | exact szN_neg (by omega) | exact szN_pos (by omega) (by omega)
theorem c_laws_toReplica (x : ReplicaT) (hw : ReplicaT.w x ≤ 1048576) : PC Tryz.prog false 121 [.agg x.cells] (.agg [.bool x.Up, .own 0, .int .i64 x.Sure]) [⟨.deep EntryT.shp, 124, 8, (x.Log.map EntryT.cells)⟩] := by
  have hw2 : x.w = wL EntryT.w x.Log := rfl
  refine pc_at Tryz.func121 rfl (by kernel_rfl) 15 [.cell 2 90] rfl rfl ?_
  repeat' (conv => whnf); first
 | refine nameB_self (b := x.Up) ?_
 | refine CallF (c_laws_toEntryS x.Log (by omega)) rfl rfl rfl (Nat.le_of_ble_eq_true rfl) ?_
 | refine side_and (side_of (by first | exact ⟨Nat.le_of_ble_eq_true rfl, rfl⟩ | fail)) ?_
 | refine side_and (side_of (by first | exact Nat.le_of_ble_eq_true rfl | exact rfl | omega | fail)) ?_
 | refine side_and (side_of (by first | (and_intros <;> first | rfl | omega | exact Nat.le_of_ble_eq_true rfl) | fail)) ?_
 | fail
  all_goals
    conv => whnf
    exact OutA_deep rfl rfl rfl ⟨⟨rfl, rfl⟩, trivial⟩ rfl
theorem c_laws_eqReplica (x y : ReplicaT) (hok : x.ok) : PC Tryz.prog false 126 [.agg x.cells, .agg y.cells] (.bool (decide (x = y))) [] := by
  refine pc_at Tryz.func126 rfl (by kernel_rfl) 21 [.tmp 4] rfl rfl ?_
  repeat' (conv => whnf); first
 | refine nameB_self (b := x.Up) ?_
 | refine nameB_self (b := y.Up) ?_
 | refine nameB_true ?_
 | refine nameB_false ?_
 | (refine nameB_dec (fun h => ?_) (fun h => ?_) <;> try simp only [lensB] at h)
 | (refine nameB_cases (fun h => ?_) (fun h => ?_) <;> try simp only [nmL, lensB] at h)
 | refine splitB_true ?_
 | refine splitB_false ?_
 | refine Call0 (c_laws_eqEntryS x.Log y.Log (hok.2.1)) rfl rfl ?_
 | refine side_and (side_of (by first | exact Nat.le_of_ble_eq_true rfl | exact rfl | omega | fail)) ?_
 | fail
  all_goals
    conv => whnf
    refine OutA_plain rfl rfl ?_
    first
    | exact bool_no (fun e => absurd (congrArg ReplicaT.Up e) (by assumption))
    | exact bool_no (fun e => absurd (congrArg ReplicaT.Log e) (by assumption))
    | exact bool_no (fun e => absurd (congrArg ReplicaT.Sure e) (by assumption))
    | exact bool_yes (ReplicaT.same (by assumption) (by assumption) (by assumption))
theorem c_laws_szReplicaS (xs : List ReplicaT) (n : Int) (h0 : 0 ≤ n) (h1 : n ≤ 1048576) (hok : (okL ReplicaT.ok) xs) : PC Tryz.prog false 67 [.sl (xs.map ReplicaT.cells), .int .i64 n] (.int .i64 (szN n (wL ReplicaT.w xs))) [] := by
  have hl := hok.1
  refine pc_at Tryz.func67 rfl (by kernel_rfl) 27 [.tmp 4] rfl rfl ?_
  repeat' (conv => whnf); first
 | refine nameB_true ?_
 | refine nameB_dno (by assumption) ?_
 | (refine nameB_dec (fun h => ?_) (fun h => ?_) <;> try simp only [lensB] at h)
 | refine splitB_true ?_
 | refine splitB_false ?_
 | ((refine Loop_at [0] [] (Nat × Int) (fun j => match j with | (k, m) => (0 ≤ m ∧ m ≤ 1048576) ∧ m - (((xs.drop k).map ReplicaT.w).sum : Nat) = n - (wL ReplicaT.w xs : Nat) ∧ k ≤ xs.length) (fun j => match j with | (k, m) => [(1, .int .i64 m), (5, .int .i64 (k : Nat))]) (fun j => match j with | (k, m) => []) (fun j => match j with | (k, m) => xs.length - k) (0, _) ⟨rfl, by first | (simp_all <;> fail) | rfl | fail, trivial⟩ trivial (by (try dsimp only); first | ((simp only [i64_wrap_eq, List.length_map, wL, List.drop_zero] at *; omega)) | fail) ?_; (conv => whnf); refine side_and (side_of (by first | exact fun ⟨k, m⟩ => rfl | exact fun ⟨k, m⟩ => by simp [headOk, closedE, closedO, closedL, AV.closed, hcap.closed, hasId, AObj.box, BK.ofB])) ?_; rintro ⟨k, m⟩ hT; try dsimp only at hT))
 | (refine Again_of (k + 1, _) ⟨rfl, by first | rfl | exact i64_next (by omega) | (simp_all <;> fail) | fail, trivial⟩ trivial (by first | (and_intros <;> first | rfl | trivial) | fail) (by first | (and_intros <;> first | rfl | trivial) | fail) rfl rfl rfl (by (try dsimp only); first | ((have hs := sum_drop ReplicaT.w hx; omega)) | fail) (show _ < _ by (try dsimp only); omega))
 | ((by_cases hn : m - (ReplicaT.w x : Nat) < 0 <;> first | refine Call0 (pc_szneg (c_laws_szReplica x m hT.1.1 hT.1.2 (hok.2 x (List.mem_of_getElem? hx))) hn) rfl rfl ?_ | refine Call0 (pc_szpos (c_laws_szReplica x m hT.1.1 hT.1.2 (hok.2 x (List.mem_of_getElem? hx))) hn) rfl rfl ?_))
 | (refine ix_map (by omega) (by (try simp only [List.length_take]); omega) (fun x hx => ?_); try simp only [Int.toNat_natCast] at hx)
 | refine side_and (side_of (by first | exact Nat.le_of_ble_eq_true rfl | exact rfl | omega | fail)) ?_
 | fail
  all_goals
    conv => whnf
    refine OutA_plain rfl rfl ?_
    refine congrArg (AV.int .i64) ?_
    first
    | (have hs := sum_drop ReplicaT.w hx; exact szN_neg (by omega))
    | (have hs := sum_end ReplicaT.w (xs := xs) (k := k) (by omega); exact szN_pos (by omega) (by omega))
    | (have hs : wL ReplicaT.w xs = xs.length + (xs.map ReplicaT.w).sum := rfl; simp only [i64_wrap_eq] at *; exact szN_neg (by omega))
theorem c_laws_toReplicaS (xs : List ReplicaT) (hw : wL ReplicaT.w xs ≤ 1048576) : PC Tryz.prog false 70 [.sl (xs.map ReplicaT.cells)] (.own 0) [⟨.deep ReplicaT.shp, 90, 3, xs.map ReplicaT.cells⟩] := by
  have hl : xs.length ≤ 1048576 := Nat.le_trans wL_len hw
  refine pc_at Tryz.func70 rfl (by kernel_rfl) 23 [.tmp 2] rfl rfl ?_
  repeat' (conv => whnf); first
 | (refine nameB_dec (fun h => ?_) (fun h => ?_) <;> try simp only [lensB] at h)
 | refine splitB_true ?_
 | refine splitB_false ?_
 | ((refine Loop_prom [(4128, ReplicaT.shp)] ⟨⟨_, _, _, rfl, by first | exact prom_nil | exact prom_rep rfl | exact prom_map (fun _ => rfl) | exact prom_one rfl⟩, trivial⟩ ?_; refine Loop_at [0, 3] [] (Nat) (fun k => True ∧ k ≤ xs.length) (fun k => [(4, .int .i64 (k : Nat))]) (fun k => [(4128, ⟨.deep ReplicaT.shp, 90, 3, (xs.take k).map ReplicaT.cells ++ List.replicate (xs.length - k) [.bool false, .nil, .int .i64 0]⟩)]) (fun k => xs.length - k) 0 ⟨by first | (simp_all <;> fail) | rfl | fail, trivial⟩ ⟨by first | rfl | exact congrArg (fun e => some (AObj.mk _ _ _ e)) (set_rep hx) | exact congrArg (fun e => some (AObj.mk _ _ _ e)) start_rep | fail | fail, trivial⟩ (by (try dsimp only); first | trivial | (refine ⟨?_, by omega⟩; simp <;> fail) | (simp <;> fail) | fail) ?_; (conv => whnf); refine side_and (side_of (by first | exact fun k => rfl | exact fun k => by simp [headOk, closedE, closedO, closedL, AV.closed, hcap.closed, hasId, AObj.box, BK.ofB])) ?_; rintro k hT; try dsimp only at hT))
 | (refine Again_of (k + 1) ⟨by first | rfl | exact i64_next (by omega) | (simp_all <;> fail) | fail, trivial⟩ ⟨by first | rfl | exact congrArg (fun e => some (AObj.mk _ _ _ e)) (set_rep hx) | exact congrArg (fun e => some (AObj.mk _ _ _ e)) start_rep | fail | fail, trivial⟩ (by first | (and_intros <;> first | rfl | trivial) | fail) (by first | (and_intros <;> first | rfl | trivial) | fail) rfl rfl rfl (by (try dsimp only); first | (exact ⟨trivial, by omega⟩) | fail) (show _ < _ by (try dsimp only); omega))
 | refine CallF (c_laws_toReplica x (Nat.le_trans (wL_mem (List.mem_of_getElem? hx)).2 hw)) rfl rfl rfl (Nat.le_of_ble_eq_true rfl) ?_
 | (refine ix_map (by omega) (by (try simp only [List.length_take]); omega) (fun x hx => ?_); try simp only [Int.toNat_natCast] at hx)
 | refine side_and (side_of (by first | exact Nat.le_of_ble_eq_true rfl | exact rfl | omega | fail)) ?_
 | refine side_and (side_of (by first | (and_intros <;> first | rfl | omega | exact Nat.le_of_ble_eq_true rfl) | fail)) ?_
 | refine side_and (side_of (by first | (and_intros <;> first | exact Nat.le_of_ble_eq_true rfl | rfl | omega | (simp only [lensB, lensC]; omega) | exact bytes_ok (Nat.le_of_ble_eq_true rfl) (by omega) (by simp only [lensB, lensC]; omega) | exact bytes_okN (Nat.le_of_ble_eq_true rfl) (by simp only [lensB, lensC]; omega)) | fail)) ?_
 | refine StoreD_of rfl rfl rfl ?_
 | refine ix_rep (by simp; omega) (by omega) ?_
 | fail
  all_goals
    conv => whnf
    exact OutA_deep rfl rfl rfl ⟨⟨congrArg (fun e => some (AObj.mk _ _ _ e)) (full_rep (by omega)), rfl⟩, trivial⟩ rfl
theorem c_laws_eqReplicaS (xs ys : List ReplicaT) (hok : (okL ReplicaT.ok) xs) : PC Tryz.prog false 72 [.sl (xs.map ReplicaT.cells), .sl (ys.map ReplicaT.cells)] (.bool (decide (xs = ys))) [] := by
  have hl := hok.1
  refine pc_at Tryz.func72 rfl (by kernel_rfl) 27 [.tmp 4] rfl rfl ?_
  repeat' (conv => whnf); first
 | refine nameB_true ?_
 | refine nameB_false ?_
 | (refine nameB_dec (fun h => ?_) (fun h => ?_) <;> try simp only [lensB] at h)
 | (refine nameB_cases (fun h => ?_) (fun h => ?_) <;> try simp only [nmL, lensB] at h)
 | refine splitB_true ?_
 | refine splitB_false ?_
 | refine draw_text (by kernel_rfl) (by kernel_rfl) (by kernel_rfl) ?_
 | ((refine Loop_at [0, 1] [] (Nat) (fun k => xs.take k = ys.take k ∧ k ≤ xs.length) (fun k => [(5, .int .i64 (k : Nat))]) (fun k => []) (fun k => xs.length - k) 0 ⟨by first | (simp_all <;> fail) | rfl | fail, trivial⟩ trivial (by (try dsimp only); first | trivial | (refine ⟨?_, by omega⟩; simp <;> fail) | (simp <;> fail) | fail) ?_; (conv => whnf); refine side_and (side_of (by first | exact fun k => rfl | exact fun k => by simp [headOk, closedE, closedO, closedL, AV.closed, hcap.closed, hasId, AObj.box, BK.ofB])) ?_; rintro k hT; try dsimp only at hT))
 | (refine Again_of (k + 1) ⟨by first | rfl | exact i64_next (by omega) | (simp_all <;> fail) | fail, trivial⟩ trivial (by first | (and_intros <;> first | rfl | trivial) | fail) (by first | (and_intros <;> first | rfl | trivial) | fail) rfl rfl rfl (by (try dsimp only); first | (exact ⟨take_next hT.1 hx hy (by assumption), by omega⟩) | fail) (show _ < _ by (try dsimp only); omega))
 | refine CallD0 (c_laws_eqReplica x y (hok.2 x (List.mem_of_getElem? hx))) rfl rfl rfl ?_
 | (refine ix_map2 hx (by omega) (by (try simp only [List.length_take]); omega) (fun y hy => ?_); try simp only [Int.toNat_natCast] at hy)
 | (refine ix_map (by omega) (by (try simp only [List.length_take]); omega) (fun x hx => ?_); try simp only [Int.toNat_natCast] at hx)
 | refine side_and (side_of (by first | exact Nat.le_of_ble_eq_true rfl | exact rfl | omega | fail)) ?_
 | refine LoadK_of rfl rfl ?_
 | fail
  all_goals
    conv => whnf
    refine OutA_plain rfl rfl ?_
    first
    | exact bool_no (len_ne (by omega))
    | exact bool_no (get_ne hx hy (by assumption))
    | exact bool_yes (take_all_eq hT.1 (by omega) (by omega))
theorem m_laws_markReplicaS (xs : List ReplicaT) (k : Int) (h0 : 0 ≤ k) (h1 : k + (cntL ReplicaT.cnt xs : Int) ≤ 1152921504606846976) (hl : xs.length ≤ 1152921504606846976) : MC Tryz.prog 73 false [.sl (xs.map ReplicaT.cells)] [.sl 90 3 ReplicaT.shp] k [.sl ((mkL ReplicaT.mkM ReplicaT.cnt xs k).map ReplicaT.cells)] (k + (cntL ReplicaT.cnt xs : Int)) := by
  refine mc_of Tryz.func73 rfl (by kernel_rfl) 36 [.tmp 4] [.own 0] rfl rfl (fun e => by first | rfl | cases e) rfl rfl ?_
  repeat' (conv => whnf); first
 | refine nameB_self (b := (_ == _)) ?_
 | (show Go.Ab.StoreD _ _ _ 0 _ _ _ _ _; refine StoreD_cut (off := 0) [(0, .own 0), (1, .int .i64 ((k + (cntL ReplicaT.cnt (xs.take i) : Int)))), (5, .int .i64 (i : Nat))] [(0, ⟨.deep ReplicaT.shp, 90, 3, (((midL ReplicaT.mkM ReplicaT.cnt xs k i).map ReplicaT.cells).set i [.bool (((k + (cntL ReplicaT.cnt (xs.take i) : Int))).tmod 3 == 0), .sl (x.Log.map EntryT.cells), .int .i64 x.Sure])⟩)] rfl rfl ⟨rfl, (by first | rfl | exact congrArg (AV.int IntKind.i64) (by first | (have hle := cntL_le (cnt := ReplicaT.cnt) hx; have hcx : ReplicaT.cnt x = 1 + cntL EntryT.cnt x.Log + 1 := rfl; first | (simp (disch := omega) only [i64w] <;> fail) | (simp (disch := omega) only [i64w]; omega)) | fail) | fail), rfl, trivial⟩ rfl ⟨congrArg (fun l => some (AObj.mk _ _ _ l)) (by first | (have hle := cntL_le (cnt := ReplicaT.cnt) hx; have hcx : ReplicaT.cnt x = 1 + cntL EntryT.cnt x.Log + 1 := rfl; (try simp only [List.set_set, Int.toNat_natCast]); refine congrArg (List.set _ _) ?_; ((repeat' refine cells_eq ?_ ?_) <;> first | rfl | (refine congrArg (AV.int IntKind.i64) ?_; simp (disch := omega) only [i64w]; first | done | rfl) | (refine congrArg AV.str (congrArg mText ?_); simp (disch := omega) only [i64w]; first | done | rfl) | (refine congrArg AV.bool ?_; simp (disch := omega) only [i64w]; first | done | rfl) | (refine congrArg AV.sl ?_; simp (disch := omega) only [i64w]; first | done | rfl))) | fail), trivial⟩ rfl rfl ⟨rfl, by simp⟩ ?_)
 | (show Go.Ab.StoreD _ _ _ 2 _ _ _ _ _; refine StoreD_cut (off := 2) [(0, .own 0), (1, .int .i64 ((k + (cntL ReplicaT.cnt (xs.take i) : Int)) + 1 + (cntL EntryT.cnt x.Log : Int))), (5, .int .i64 (i : Nat))] [(0, ⟨.deep ReplicaT.shp, 90, 3, (((midL ReplicaT.mkM ReplicaT.cnt xs k i).map ReplicaT.cells).set i [.bool (((k + (cntL ReplicaT.cnt (xs.take i) : Int))).tmod 3 == 0), .sl ((mkL EntryT.mkM EntryT.cnt x.Log ((k + (cntL ReplicaT.cnt (xs.take i) : Int)) + 1)).map EntryT.cells), .int .i64 ((k + (cntL ReplicaT.cnt (xs.take i) : Int)) + 1 + (cntL EntryT.cnt x.Log : Int))])⟩)] rfl rfl ⟨rfl, (by first | rfl | exact congrArg (AV.int IntKind.i64) (by first | (have hle := cntL_le (cnt := ReplicaT.cnt) hx; have hcx : ReplicaT.cnt x = 1 + cntL EntryT.cnt x.Log + 1 := rfl; first | (simp (disch := omega) only [i64w] <;> fail) | (simp (disch := omega) only [i64w]; omega)) | fail) | fail), rfl, trivial⟩ rfl ⟨congrArg (fun l => some (AObj.mk _ _ _ l)) (by first | (have hle := cntL_le (cnt := ReplicaT.cnt) hx; have hcx : ReplicaT.cnt x = 1 + cntL EntryT.cnt x.Log + 1 := rfl; (try simp only [List.set_set, Int.toNat_natCast]); refine congrArg (List.set _ _) ?_; ((repeat' refine cells_eq ?_ ?_) <;> first | rfl | (refine congrArg (AV.int IntKind.i64) ?_; simp (disch := omega) only [i64w]; first | done | rfl) | (refine congrArg AV.str (congrArg mText ?_); simp (disch := omega) only [i64w]; first | done | rfl) | (refine congrArg AV.bool ?_; simp (disch := omega) only [i64w]; first | done | rfl) | (refine congrArg AV.sl ?_; simp (disch := omega) only [i64w]; first | done | rfl))) | fail), trivial⟩ rfl rfl ⟨rfl, by simp⟩ ?_)
 | (refine nameB_dec (fun h => ?_) (fun h => ?_) <;> try simp only [lensB] at h)
 | refine splitB_true ?_
 | refine splitB_false ?_
 | ((refine Loop_at [0] [] (Nat) (fun i => i ≤ xs.length) (fun i => [(1, .int .i64 (k + (cntL ReplicaT.cnt (xs.take i) : Int))), (5, .int .i64 (i : Nat))]) (fun i => [(0, ⟨.deep ReplicaT.shp, 90, 3, (midL ReplicaT.mkM ReplicaT.cnt xs k i).map ReplicaT.cells⟩)]) (fun i => xs.length - i) 0 ⟨by first | first | exact cnt0_eq | exact congrArg (AV.int IntKind.i64) (by first | (have hle := cntL_le (cnt := ReplicaT.cnt) hx; have hcx : ReplicaT.cnt x = 1 + cntL EntryT.cnt x.Log + 1 := rfl; rw [cntL_take hx]; (try simp (disch := omega) only [i64w]); omega) | fail) | rfl | fail, by first | first | exact cnt0_eq | exact congrArg (AV.int IntKind.i64) (by first | (have hle := cntL_le (cnt := ReplicaT.cnt) hx; have hcx : ReplicaT.cnt x = 1 + cntL EntryT.cnt x.Log + 1 := rfl; rw [cntL_take hx]; (try simp (disch := omega) only [i64w]); omega) | fail) | rfl | fail, trivial⟩ ⟨by first | rfl | first | exact congrArg (fun e => some (AObj.mk _ _ _ e)) (congrArg (List.map ReplicaT.cells) midL_zero.symm) | exact congrArg (fun e => some (AObj.mk _ _ _ e)) (by first | (refine midL_next hx ?_; rfl) | fail) | fail | fail, trivial⟩ (by (try dsimp only); first | (exact Nat.zero_le _) | fail) ?_; (conv => whnf); refine side_and (side_of (by first | exact fun i => rfl | exact fun i => by simp [headOk, closedE, closedO, closedL, AV.closed, hcap.closed, hasId, AObj.box, BK.ofB])) ?_; rintro i hM; try dsimp only at hM))
 | (refine Again_of (i + 1) ⟨by first | first | exact cnt0_eq | exact congrArg (AV.int IntKind.i64) (by first | (have hle := cntL_le (cnt := ReplicaT.cnt) hx; have hcx : ReplicaT.cnt x = 1 + cntL EntryT.cnt x.Log + 1 := rfl; rw [cntL_take hx]; (try simp (disch := omega) only [i64w]); omega) | fail) | rfl | fail, by first | rfl | exact i64_next (by omega) | first | exact cnt0_eq | exact congrArg (AV.int IntKind.i64) (by first | (have hle := cntL_le (cnt := ReplicaT.cnt) hx; have hcx : ReplicaT.cnt x = 1 + cntL EntryT.cnt x.Log + 1 := rfl; rw [cntL_take hx]; (try simp (disch := omega) only [i64w]); omega) | fail) | fail, trivial⟩ ⟨by first | rfl | first | exact congrArg (fun e => some (AObj.mk _ _ _ e)) (congrArg (List.map ReplicaT.cells) midL_zero.symm) | exact congrArg (fun e => some (AObj.mk _ _ _ e)) (by first | (refine midL_next hx ?_; rfl) | fail) | fail | fail, trivial⟩ (by first | (and_intros <;> first | rfl | trivial) | fail) (by first | (and_intros <;> first | rfl | trivial) | fail) rfl rfl rfl (by (try dsimp only); first | ((show i + 1 ≤ _; omega)) | fail) (show _ < _ by (try dsimp only); omega))
 | ((show Go.Ab.CallA _ _ [_, _] _ _ _ _; refine CallMc_cut (off := 1) (es2 := (((midL ReplicaT.mkM ReplicaT.cnt xs k i).map ReplicaT.cells).set i [.bool (((k + (cntL ReplicaT.cnt (xs.take i) : Int))).tmod 3 == 0), .sl ((mkL EntryT.mkM EntryT.cnt x.Log ((k + (cntL ReplicaT.cnt (xs.take i) : Int)) + 1)).map EntryT.cells), .int .i64 x.Sure])) (k := (k + (cntL ReplicaT.cnt (xs.take i) : Int)) + 1) (k' := (k + (cntL ReplicaT.cnt (xs.take i) : Int)) + 1 + (cntL EntryT.cnt x.Log : Int)) [(0, .own 0), (5, .int .i64 (i : Nat))] (by first | rfl | (have hle := cntL_le (cnt := ReplicaT.cnt) hx; have hcx : ReplicaT.cnt x = 1 + cntL EntryT.cnt x.Log + 1 := rfl; first | (simp (disch := omega) only [i64w] <;> fail) | (simp (disch := omega) only [i64w]; omega)) | fail) (m_laws_markEntryS x.Log ((k + (cntL ReplicaT.cnt (xs.take i) : Int)) + 1) (by first | (have hle := cntL_le (cnt := ReplicaT.cnt) hx; have hcx : ReplicaT.cnt x = 1 + cntL EntryT.cnt x.Log + 1 := rfl; first | omega | (simp (disch := omega) only [i64w]; omega)) | fail) (by first | (have hle := cntL_le (cnt := ReplicaT.cnt) hx; have hcx : ReplicaT.cnt x = 1 + cntL EntryT.cnt x.Log + 1 := rfl; first | omega | (simp (disch := omega) only [i64w]; omega)) | fail) (by first | (have hle := cntL_le (cnt := ReplicaT.cnt) hx; have hcx : ReplicaT.cnt x = 1 + cntL EntryT.cnt x.Log + 1 := rfl; have hll := cntL_len_Entry x.Log; omega) | fail)) (by rfl) (by first | exact mid_at hx | (refine setN_at ?_; simp only [List.length_set, List.length_map, midL_len]; omega) | fail) (by rfl) ⟨rfl, rfl, trivial⟩ rfl (by first | (have hle := cntL_le (cnt := ReplicaT.cnt) hx; have hcx : ReplicaT.cnt x = 1 + cntL EntryT.cnt x.Log + 1 := rfl; (try simp only [List.set_set, Int.toNat_natCast]); refine congrArg (List.set _ _) ?_; ((repeat' refine cells_eq ?_ ?_) <;> first | rfl | (refine congrArg (AV.int IntKind.i64) ?_; simp (disch := omega) only [i64w]; first | done | rfl) | (refine congrArg AV.str (congrArg mText ?_); simp (disch := omega) only [i64w]; first | done | rfl) | (refine congrArg AV.bool ?_; simp (disch := omega) only [i64w]; first | done | rfl) | (refine congrArg AV.sl ?_; simp (disch := omega) only [i64w]; first | done | rfl))) | fail) rfl rfl ?_))
 | refine side_and (side_of (by first | exact Nat.le_of_ble_eq_true rfl | exact rfl | omega | fail)) ?_
 | refine side_and (side_of (by first | (and_intros <;> first | rfl | omega | exact Nat.le_of_ble_eq_true rfl) | fail)) ?_
 | refine side_and (side_of (by first | (and_intros <;> first | exact Nat.le_of_ble_eq_true rfl | rfl | omega | (simp only [lensB, lensC]; omega) | exact bytes_ok (Nat.le_of_ble_eq_true rfl) (by omega) (by simp only [lensB, lensC]; omega) | exact bytes_okN (Nat.le_of_ble_eq_true rfl) (by simp only [lensB, lensC]; omega)) | fail)) ?_
 | refine LoadD_cel rfl rfl rfl rfl ?_
 | refine ix_setN (by simp only [List.length_set, List.length_map, midL_len]; omega) ?_
 | refine ix_mid (by omega) (fun x hx => ?_)
 | fail
  all_goals
    conv => whnf
    refine OutM_of (by rfl) (by rfl) (by rfl) ?_ ?_
    · exact congrArg (fun n : Nat => AV.int .i64 (k + (n : Int))) (cntL_end (by omega))
    · exact congrArg (fun l => [AV.sl (List.map ReplicaT.cells l)]) (midL_end (by omega))
theorem c_laws_heldReplicaS (xs : List ReplicaT) (k : Int) (h0 : 0 ≤ k) (h1 : k + (cntL ReplicaT.cnt xs : Int) ≤ 1152921504606846976) (hl : xs.length ≤ 1152921504606846976) : PC Tryz.prog false 74 [.sl ((mkL ReplicaT.mkM ReplicaT.cnt xs k).map ReplicaT.cells), .int .i64 k] (.int .i64 (k + (cntL ReplicaT.cnt xs : Int))) [] := by
  refine pc_at Tryz.func74 rfl (by kernel_rfl) 42 [.tmp 4] rfl rfl ?_
  repeat' (conv => whnf); first
 | refine ix_mk_at hx ?_
 | refine ix_mk (i := i) rfl (by omega) (fun x hx => ?_)
 | refine nameB_no (by first | (have hle := cntL_le (cnt := ReplicaT.cnt) hx; have hcx : ReplicaT.cnt x = 1 + cntL EntryT.cnt x.Log + 1 := rfl; simp (disch := omega) only [i64w, bne_self_eq_false, beq_self_eq_true, Bool.not_true] <;> fail) | fail) ?_
 | refine nameB_no (held_no (by first | (have hle := cntL_le (cnt := ReplicaT.cnt) hx; have hcx : ReplicaT.cnt x = 1 + cntL EntryT.cnt x.Log + 1 := rfl; first | rfl | (simp (disch := omega) only [i64w] <;> fail) | (simp (disch := omega) only [i64w]; rfl)) | fail)) ?_
 | refine nameB_self (b := (_ == _)) ?_
 | refine nameB_no (b := decide (_ < (0 : Int))) (by first | (have hle := cntL_le (cnt := ReplicaT.cnt) hx; have hcx : ReplicaT.cnt x = 1 + cntL EntryT.cnt x.Log + 1 := rfl; exact decide_eq_false (by omega)) | fail) ?_
 | (refine nameB_dec (fun h => ?_) (fun h => ?_) <;> try simp only [lensB] at h)
 | refine splitB_true ?_
 | refine splitB_false ?_
 | ((refine Loop_at [0] [] (Nat) (fun i => i ≤ xs.length) (fun i => [(1, .int .i64 (k + (cntL ReplicaT.cnt (xs.take i) : Int))), (5, .int .i64 (i : Nat))]) (fun i => []) (fun i => xs.length - i) 0 ⟨by first | first | exact cnt0_eq | exact congrArg (AV.int IntKind.i64) (by first | (have hle := cntL_le (cnt := ReplicaT.cnt) hx; have hcx : ReplicaT.cnt x = 1 + cntL EntryT.cnt x.Log + 1 := rfl; rw [cntL_take hx]; (try simp (disch := omega) only [i64w]); omega) | fail) | rfl | fail, by first | first | exact cnt0_eq | exact congrArg (AV.int IntKind.i64) (by first | (have hle := cntL_le (cnt := ReplicaT.cnt) hx; have hcx : ReplicaT.cnt x = 1 + cntL EntryT.cnt x.Log + 1 := rfl; rw [cntL_take hx]; (try simp (disch := omega) only [i64w]); omega) | fail) | rfl | fail, trivial⟩ trivial (by (try dsimp only); first | (exact Nat.zero_le _) | fail) ?_; (conv => whnf); refine side_and (side_of (by first | exact fun i => rfl | exact fun i => by simp [headOk, closedE, closedO, closedL, AV.closed, hcap.closed, hasId, AObj.box, BK.ofB])) ?_; rintro i hM; try dsimp only at hM))
 | (refine Again_of (i + 1) ⟨by first | first | exact cnt0_eq | exact congrArg (AV.int IntKind.i64) (by first | (have hle := cntL_le (cnt := ReplicaT.cnt) hx; have hcx : ReplicaT.cnt x = 1 + cntL EntryT.cnt x.Log + 1 := rfl; rw [cntL_take hx]; (try simp (disch := omega) only [i64w]); omega) | fail) | rfl | fail, by first | rfl | exact i64_next (by omega) | first | exact cnt0_eq | exact congrArg (AV.int IntKind.i64) (by first | (have hle := cntL_le (cnt := ReplicaT.cnt) hx; have hcx : ReplicaT.cnt x = 1 + cntL EntryT.cnt x.Log + 1 := rfl; rw [cntL_take hx]; (try simp (disch := omega) only [i64w]); omega) | fail) | fail, trivial⟩ trivial (by first | (and_intros <;> first | rfl | trivial) | fail) (by first | (and_intros <;> first | rfl | trivial) | fail) rfl rfl rfl (by (try dsimp only); first | ((show i + 1 ≤ _; omega)) | fail) (show _ < _ by (try dsimp only); omega))
 | (refine Call0 (c_laws_heldEntryS x.Log (k + (cntL ReplicaT.cnt (xs.take i) : Int) + 1) (by first | (have hle := cntL_le (cnt := ReplicaT.cnt) hx; have hcx : ReplicaT.cnt x = 1 + cntL EntryT.cnt x.Log + 1 := rfl; first | omega | (simp (disch := omega) only [i64w]; omega)) | fail) (by first | (have hle := cntL_le (cnt := ReplicaT.cnt) hx; have hcx : ReplicaT.cnt x = 1 + cntL EntryT.cnt x.Log + 1 := rfl; first | omega | (simp (disch := omega) only [i64w]; omega)) | fail) (by first | (have hle := cntL_le (cnt := ReplicaT.cnt) hx; have hcx : ReplicaT.cnt x = 1 + cntL EntryT.cnt x.Log + 1 := rfl; have hll := cntL_len_Entry x.Log; omega) | fail)) (congrArg (fun z => [AV.sl _, AV.int .i64 z]) (by first | (have hle := cntL_le (cnt := ReplicaT.cnt) hx; have hcx : ReplicaT.cnt x = 1 + cntL EntryT.cnt x.Log + 1 := rfl; first | rfl | (simp (disch := omega) only [i64w] <;> fail) | (simp (disch := omega) only [i64w]; rfl)) | fail)) rfl ?_)
 | refine side_and (side_of (by first | exact Nat.le_of_ble_eq_true rfl | exact rfl | omega | fail)) ?_
 | fail
  all_goals
    conv => whnf
    refine OutA_plain rfl rfl ?_
    first
    | exact congrArg (fun n : Nat => AV.int .i64 (k + (n : Int))) (cntL_end (by omega))
    | (exfalso; omega)
structure GroupT where
  Reps : List ReplicaT
  Term : Int
  Lead : Int
deriving DecidableEq
def GroupT.cells (x : GroupT) : List AV := [.sl (x.Reps.map ReplicaT.cells), .int .i64 x.Term, .int .i64 x.Lead]
def GroupT.ok (x : GroupT) : Prop := (okL ReplicaT.ok) x.Reps ∧ okT x.Term ∧ okT x.Lead
def GroupT.w (x : GroupT) : Nat := wL ReplicaT.w x.Reps
theorem GroupT.same {x y : GroupT} (hReps : x.Reps = y.Reps) (hTerm : x.Term = y.Term) (hLead : x.Lead = y.Lead) : x = y := by cases x; cases y; simp_all
theorem open_Group : ∀ n cs, Sh Tryz.prog n 24 cs → ∃ x : GroupT, cs = GroupT.cells x ∧ GroupT.ok x := by
  intro n cs h
  cases n with
  | zero => unfold Sh at h; exact h.elim
  | succ n =>
    unfold Sh at h
    rw [Tryz.underlying24] at h
    simp only [ShL] at h
    obtain ⟨y0, z0, rfl, g0, y1, z1, rfl, g1, y2, z2, rfl, g2, rfl⟩ := h
    obtain ⟨x0, rfl, o0⟩ := open_list Tryz.underlying22 (open_Replica) _ _ g0
    obtain ⟨x1, rfl, o1⟩ := open_int Tryz.underlying3 _ _ g1
    obtain ⟨x2, rfl, o2⟩ := open_int Tryz.underlying3 _ _ g2
    exact ⟨⟨x0, x1, x2⟩, rfl, o0, o1, o2⟩
def GroupT.shp : List Shp := [.sl 90 3 ReplicaT.shp, .leaf, .leaf]
def GroupT.mkM (x : GroupT) (k : Int) : GroupT := ⟨mkL ReplicaT.mkM ReplicaT.cnt x.Reps k, k + (cntL ReplicaT.cnt x.Reps : Int), k + (cntL ReplicaT.cnt x.Reps : Int) + 1⟩
def GroupT.cnt (x : GroupT) : Nat := cntL ReplicaT.cnt x.Reps + 1 + 1
def GroupT.mkS (x : GroupT) (k : Int) : GroupT := ⟨mkL ReplicaT.mkM ReplicaT.cnt x.Reps k, x.Term, x.Lead⟩
def GroupT.cntS (x : GroupT) (k : Int) : Int := k + (cntL ReplicaT.cnt x.Reps : Int)
theorem GroupT.cnt_w (x : GroupT) : GroupT.cnt x ≤ 100 * (1 + GroupT.w x) := by
  have h0 := cntL_w100 (cnt := ReplicaT.cnt) (w := ReplicaT.w) (fun y => ReplicaT.cnt_w y) x.Reps
  simp only [GroupT.cnt, GroupT.w] at *
  omega
theorem GroupT.cntS_w (x : GroupT) (k : Int) : GroupT.cntS x k ≤ k + 100 * (1 + (GroupT.w x : Int)) := by
  have h0 := cntL_w100 (cnt := ReplicaT.cnt) (w := ReplicaT.w) (fun y => ReplicaT.cnt_w y) x.Reps
  simp only [GroupT.cntS, GroupT.cnt, GroupT.w] at *
  omega
theorem c_laws_szGroup (x : GroupT) (n : Int) (h0 : 0 ≤ n) (h1 : n ≤ 1048576) (hok : x.ok) : PC Tryz.prog false 27 [.agg x.cells, .int .i64 n] (.int .i64 (szN n x.w)) [] := by
  have oReps : (okL ReplicaT.ok) x.Reps := hok.1
  have hw : x.w = wL ReplicaT.w x.Reps := rfl
  refine pc_at Tryz.func27 rfl (by kernel_rfl) 12 [.tmp 4] rfl rfl ?_
  repeat' (conv => whnf); first
 | refine nameB_true ?_
 | refine nameB_dno (by assumption) ?_
 | refine splitB_true ?_
 | refine splitB_false ?_
 | ((by_cases hn0 : n - ((wL ReplicaT.w x.Reps : Nat) : Int) < 0 <;> first | refine Call0 (pc_szneg (c_laws_szReplicaS x.Reps n (by (try simp only [i64_wrap_eq] at *); omega) (by (try simp only [i64_wrap_eq] at *); omega) oReps) hn0) rfl rfl ?_ | refine Call0 (pc_szpos (c_laws_szReplicaS x.Reps n (by (try simp only [i64_wrap_eq] at *); omega) (by (try simp only [i64_wrap_eq] at *); omega) oReps) hn0) rfl rfl ?_))
 | refine side_and (side_of (by first | exact Nat.le_of_ble_eq_true rfl | exact rfl | omega | fail)) ?_
 | fail
  all_goals
    conv => whnf
    refine OutA_plain rfl rfl ?_
    refine congrArg (AV.int .i64) ?_
    (try simp only [i64_wrap_eq] at *)
    first | exact szN_neg (by omega) | exact szN_pos (by omega) (by omega)
theorem c_laws_toGroup (x : GroupT) (hw : GroupT.w x ≤ 1048576) : PC Tryz.prog false 30 [.agg x.cells] (.agg [.own 0, .int .i64 x.Term, .int .i64 x.Lead]) [⟨.deep ReplicaT.shp, 90, 3, (x.Reps.map ReplicaT.cells)⟩] := by
  have hw2 : x.w = wL ReplicaT.w x.Reps := rfl
  refine pc_at Tryz.func30 rfl (by kernel_rfl) 15 [.cell 2 38] rfl rfl ?_
  repeat' (conv => whnf); first
 | refine CallF (c_laws_toReplicaS x.Reps (by omega)) rfl rfl rfl (Nat.le_of_ble_eq_true rfl) ?_
 | refine side_and (side_of (by first | exact ⟨Nat.le_of_ble_eq_true rfl, rfl⟩ | fail)) ?_
 | refine side_and (side_of (by first | exact Nat.le_of_ble_eq_true rfl | exact rfl | omega | fail)) ?_
 | refine side_and (side_of (by first | (and_intros <;> first | rfl | omega | exact Nat.le_of_ble_eq_true rfl) | fail)) ?_
 | fail
  all_goals
    conv => whnf
    exact OutA_deep rfl rfl rfl ⟨⟨rfl, rfl⟩, trivial⟩ rfl
theorem c_laws_eqGroup (x y : GroupT) (hok : x.ok) : PC Tryz.prog false 33 [.agg x.cells, .agg y.cells] (.bool (decide (x = y))) [] := by
  refine pc_at Tryz.func33 rfl (by kernel_rfl) 21 [.tmp 4] rfl rfl ?_
  repeat' (conv => whnf); first
 | refine nameB_true ?_
 | refine nameB_false ?_
 | (refine nameB_dec (fun h => ?_) (fun h => ?_) <;> try simp only [lensB] at h)
 | (refine nameB_cases (fun h => ?_) (fun h => ?_) <;> try simp only [nmL, lensB] at h)
 | refine splitB_true ?_
 | refine splitB_false ?_
 | refine Call0 (c_laws_eqReplicaS x.Reps y.Reps (hok.1)) rfl rfl ?_
 | refine side_and (side_of (by first | exact Nat.le_of_ble_eq_true rfl | exact rfl | omega | fail)) ?_
 | fail
  all_goals
    conv => whnf
    refine OutA_plain rfl rfl ?_
    first
    | exact bool_no (fun e => absurd (congrArg GroupT.Reps e) (by assumption))
    | exact bool_no (fun e => absurd (congrArg GroupT.Term e) (by assumption))
    | exact bool_no (fun e => absurd (congrArg GroupT.Lead e) (by assumption))
    | exact bool_yes (GroupT.same (by assumption) (by assumption) (by assumption))
theorem m_laws_markGroup (x : GroupT) (k : Int) (h0 : 0 ≤ k) (h1 : GroupT.cntS x k ≤ 1152921504606846976) : MC Tryz.prog 35 true x.cells GroupT.shp k (GroupT.mkS x k).cells (GroupT.cntS x k) := by
  have hcx : GroupT.cntS x k = k + (cntL ReplicaT.cnt x.Reps : Int) := rfl
  refine mc_of Tryz.func35 rfl (by kernel_rfl) 10 [.tmp 4] [.own 0, .int .i64 x.Term, .int .i64 x.Lead] rfl rfl (fun e => by first | rfl | cases e) rfl rfl ?_
  repeat' (conv => whnf); first
 | (refine CallM1 (m_laws_markReplicaS x.Reps k (by omega) (by omega) (by have hll := cntL_len_Replica x.Reps; omega)) [] trivial rfl rfl ?_)
 | refine side_and (side_of (by first | exact Nat.le_of_ble_eq_true rfl | exact rfl | omega | fail)) ?_
 | fail
  all_goals
    conv => whnf
    exact OutM_of (by rfl) (by rfl) (by rfl) (by rfl) (by rfl)
theorem c_laws_heldGroup (x : GroupT) (k : Int) (h0 : 0 ≤ k) (h1 : GroupT.cntS x k ≤ 1152921504606846976) : PC Tryz.prog false 37 [.agg (GroupT.mkS x k).cells, .int .i64 k] (.int .i64 (GroupT.cntS x k)) [] := by
  have hcx : GroupT.cntS x k = k + (cntL ReplicaT.cnt x.Reps : Int) := rfl
  refine pc_at Tryz.func37 rfl (by kernel_rfl) 12 [.tmp 4] rfl rfl ?_
  repeat' (conv => whnf); first
 | refine nameB_no (b := decide (_ < (0 : Int))) (decide_eq_false (by omega)) ?_
 | refine splitB_false ?_
 | (refine Call0 (c_laws_heldReplicaS x.Reps (k) (by omega) (by omega) (by have hll := cntL_len_Replica x.Reps; omega)) rfl rfl ?_)
 | refine side_and (side_of (by first | exact Nat.le_of_ble_eq_true rfl | exact rfl | omega | fail)) ?_
 | fail
  all_goals
    conv => whnf
    exact OutA_plain rfl rfl rfl
end Go.Proofs.YtfpkfnfgloonhaaGreat
