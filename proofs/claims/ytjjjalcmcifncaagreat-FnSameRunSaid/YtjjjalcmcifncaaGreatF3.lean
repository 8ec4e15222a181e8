/- Part 3 of one proof: lemmas and contracts, laid one behind the other. No condition. -/
import Derived.Test.YtjjjalcmcifncaaGreatF2
import Derived.Test.YtjjjalcmcifncaaGreatF1
namespace Go.Proofs.YtjjjalcmcifncaaGreat
open Go.Ab
set_option linter.unusedSimpArgs false
set_option maxRecDepth 20000
set_option maxHeartbeats 4000000
set_option linter.unusedVariables false
def qF : Nat -> Int
  | 6 => 1
  | 5 => 128
  | 4 => 16384
  | 3 => 2097152
  | 2 => 268435456
  | _ => 34359738368
theorem qF_next {f : Nat} (h : 2 <= f) (h2 : f <= 6) : qF (f - 1) = qF f * 128 := by
  match f, h, h2 with
  | 2, _, _ => rfl
  | 3, _, _ => rfl
  | 4, _, _ => rfl
  | 5, _, _ => rfl
  | 6, _, _ => rfl
theorem qF_bnd (f : Nat) : 1 <= qF f /\ qF f <= 34359738368 := by
  unfold qF
  split <;> omega
theorem rq_bnd {x : UInt8} {f : Nat} : 0 <= ((x.toNat % 128 : Nat) : Int) * qF f /\ ((x.toNat % 128 : Nat) : Int) * qF f <= 4398046511104 := by
  have h := qF_bnd f
  have h1 : 0 <= ((x.toNat % 128 : Nat) : Int) * qF f := Int.mul_nonneg (by omega) (by omega)
  have h2 : ((x.toNat % 128 : Nat) : Int) * qF f <= 128 * qF f := Int.mul_le_mul_of_nonneg_right (by omega) (by omega)
  omega
theorem num_w {x : UInt8} {n : Int} {f : Nat} (h0 : 0 <= n) (h1 : n <= 1000000000) : IntKind.i64.wrap (n + IntKind.i64.wrap (IntKind.i64.wrap ((([x].getD (Int.toNat 0) 0).toNat : Int).tmod 128) * qF f)) = n + ((x.toNat % 128 : Nat) : Int) * qF f := by
  have hb := rq_bnd (x := x) (f := f)
  have e1 : ((([x].getD (Int.toNat 0) 0).toNat : Int).tmod 128) = ((x.toNat % 128 : Nat) : Int) := by
    rw [Int.tmod_eq_emod_of_nonneg (by omega)]
    show ((x.toNat : Int)) % 128 = _
    omega
  rw [e1, i64_wrap (e := ((x.toNat % 128 : Nat) : Int)) (by omega) (by omega), i64_wrap (e := ((x.toNat % 128 : Nat) : Int) * qF f) (by omega) (by omega), i64_wrap (by omega) (by omega)]
section
variable {b : List UInt8} {s f : Nat} {n q : Int} {a : Nat} {x : UInt8}
theorem numL_none' (hf : 1 <= f) (h : b[a]? = none) : numL b s f n q a = (0, a, true) := by
  obtain ⟨f, rfl⟩ : ∃ g, f = g + 1 := ⟨f - 1, by omega⟩
  exact numL_none h
theorem numL_big' (hf : 1 <= f) (h : b[a]? = some x) (h2 : n + ((x.toNat % 128 : Nat) : Int) * q > 1000000000 \/ a + 1 - s > 5) : numL b s f n q a = (0, a + 1, true) := by
  obtain ⟨f, rfl⟩ : ∃ g, f = g + 1 := ⟨f - 1, by omega⟩
  exact numL_big h h2
theorem numL_fin' (hf : 1 <= f) (h : b[a]? = some x) (h2 : ¬ (n + ((x.toNat % 128 : Nat) : Int) * q > 1000000000 \/ a + 1 - s > 5)) (h3 : x.toNat < 128) : numL b s f n q a = finI b s (n + ((x.toNat % 128 : Nat) : Int) * q) (a + 1) := by
  obtain ⟨f, rfl⟩ : ∃ g, f = g + 1 := ⟨f - 1, by omega⟩
  exact numL_fin h h2 h3
theorem numL_go' (hf : 1 <= f) (h : b[a]? = some x) (h2 : ¬ (n + ((x.toNat % 128 : Nat) : Int) * q > 1000000000 \/ a + 1 - s > 5)) (h3 : ¬ x.toNat < 128) : numL b s f n q a = numL b s (f - 1) (n + ((x.toNat % 128 : Nat) : Int) * q) (q * 128) (a + 1) := by
  obtain ⟨f, rfl⟩ : ∃ g, f = g + 1 := ⟨f - 1, by omega⟩
  exact numL_go h h2 h3
end
theorem c_impl_num (b : List UInt8) (a0 : Nat) (f : Bool) (ha : a0 <= b.length) (hb : b.length <= 1073741824) : BC Tryz.prog 136 145 [.str b, .int .i64 (a0 : Int), .bool f] [] (.int .i64 (numFI b a0 f).1) [] [.str b, .int .i64 ((numFI b a0 f).2.1 : Int), .bool (numFI b a0 f).2.2] := by
  cases f with
  | true =>
    refine bc_of Tryz.func136 rfl (by kernel_rfl) 3 59 [.tmp 2] rfl rfl rfl (by decide) rfl ?_
    repeat' (conv => whnf); first
 | refine nameB_true ?_
 | refine splitB_true ?_
 | ((refine Loop_at [0, 3] [] (Nat) (fun u => u <= 5) (fun u => [(4, .int .i64 0), (5, .int .i64 1)]) (fun u => [(0, ⟨true, 145, 3, [[.str b, .int .i64 (a0 : Int), .bool true]]⟩)]) (fun u => 0) 0 ⟨by first | (simp_all <;> fail) | rfl | fail, by first | (simp_all <;> fail) | rfl | fail, trivial⟩ ⟨by first | rfl | rfl | fail | fail, trivial⟩ (by (try dsimp only); first | (exact Nat.zero_le _) | fail) ?_; (conv => whnf); refine side_and (side_of (by first | exact fun u => rfl | exact fun u => by simp [headOk, closedE, closedO, closedL, AV.closed, hcap.closed, hasId, AObj.box, BK.ofB])) ?_; rintro u hT; try dsimp only at hT))
 | refine CallB (c_impl_take_bad b a0 1 ha hb (by omega) (by omega)) rfl rfl rfl rfl rfl rfl ?_
 | fail
    all_goals
      conv => whnf
      first
      | exact OutB_plain rfl rfl rfl rfl rfl rfl rfl
  | false =>
    refine bc_of Tryz.func136 rfl (by kernel_rfl) 3 59 [.tmp 2] rfl rfl rfl (by decide) rfl ?_
    repeat' (conv => whnf); first
 | refine nameB_true ?_
 | refine nameB_false ?_
 | (refine nameB_dec (fun h => ?_) (fun h => ?_) <;> try simp only [lensB] at h)
 | (refine nameB_cases (fun h => ?_) (fun h => ?_) <;> try simp only [nmL, lensB] at h)
 | refine splitB_true ?_
 | refine splitB_false ?_
 | refine draw_text (by kernel_rfl) (by kernel_rfl) (by kernel_rfl) ?_
 | ((refine Loop_at [0, 3] [] (Nat × Int × Int × Nat) (fun j => match j with | (f, n, q, a) => numL b a0 f n q a = numL b a0 6 0 1 a0 /\ a + f = a0 + 6 /\ a <= b.length /\ 0 <= n /\ n <= 1000000000 /\ q = qF f /\ a0 <= a /\ 1 <= f) (fun j => match j with | (f, n, q, a) => [(4, .int .i64 n), (5, .int .i64 (qF f))]) (fun j => match j with | (f, n, q, a) => [(0, ⟨true, 145, 3, [[.str b, .int .i64 (a : Int), .bool false]]⟩)]) (fun j => match j with | (f, n, q, a) => f) (6, 0, 1, a0) ⟨by first | first | rfl | exact congrArg (AV.int .i64) hw | exact congrArg (AV.int .i64) ((i64_wrap (by omega) (by omega)).trans (qF_next (by omega) (by omega)).symm) | rfl | fail, by first | first | rfl | exact congrArg (AV.int .i64) hw | exact congrArg (AV.int .i64) ((i64_wrap (by omega) (by omega)).trans (qF_next (by omega) (by omega)).symm) | rfl | fail, trivial⟩ ⟨by first | rfl | rfl | fail | fail, trivial⟩ (by (try dsimp only); first | (exact ⟨rfl, rfl, ha, by omega, by omega, rfl, Nat.le_refl _, by omega⟩) | fail) ?_; (conv => whnf); refine side_and (side_of (by first | exact fun ⟨f, n, q, a⟩ => rfl | exact fun ⟨f, n, q, a⟩ => by simp [headOk, closedE, closedO, closedL, AV.closed, hcap.closed, hasId, AObj.box, BK.ofB])) ?_; rintro ⟨f, n, q, a⟩ hT; try dsimp only at hT))
 | (refine Again_of (f - 1, n + ((x.toNat % 128 : Nat) : Int) * qF f, qF (f - 1), a + 1) ⟨by first | first | rfl | exact congrArg (AV.int .i64) hw | exact congrArg (AV.int .i64) ((i64_wrap (by omega) (by omega)).trans (qF_next (by omega) (by omega)).symm) | rfl | fail, by first | first | rfl | exact congrArg (AV.int .i64) hw | exact congrArg (AV.int .i64) ((i64_wrap (by omega) (by omega)).trans (qF_next (by omega) (by omega)).symm) | rfl | fail, trivial⟩ ⟨by first | rfl | rfl | fail | fail, trivial⟩ (by first | (and_intros <;> first | rfl | trivial) | fail) (by first | (and_intros <;> first | rfl | trivial) | fail) rfl rfl rfl (by (try dsimp only); first | ((have hq := qF_next (f := f) (by omega) (by omega); exact ⟨by rw [hq]; exact (numL_go' hT.2.2.2.2.2.2.2 hx (by omega) (by omega)).symm.trans (by rw [<- hT.2.2.2.2.2.1]; exact hT.1), by omega, by omega, by omega, by omega, rfl, by omega, by omega⟩)) | fail) (show _ < _ by (try dsimp only); omega))
 | refine CallB (c_impl_fail ..) rfl rfl rfl rfl rfl rfl ?_
 | (rcases hx : b[a]? with _ | x <;> first | refine CallB (c_impl_take1_no b a hT.2.2.1 hb hx) rfl rfl rfl rfl rfl rfl ?_ | (have hw := num_w (x := x) (n := n) (f := f) hT.2.2.2.1 hT.2.2.2.2.1; have hgx : ([x].getD (Int.toNat 0) 0).toNat = x.toNat := rfl; have hrq := rq_bnd (x := x) (f := f); have hqb := qF_bnd f; have hlt := (List.getElem?_eq_some_iff.1 hx).1; have hws := i64_wrap (e := ((a + 1 : Nat) : Int) - a0) (by omega) (by omega); refine CallB (c_impl_take1 b a x hb hx) rfl rfl rfl rfl rfl rfl ?_))
 | refine CallD0 (c_impl_numBytes9 (n + ((x.toNat % 128 : Nat) : Int) * qF f) (by omega) (by omega)) (congrArg (fun z : Int => [AV.int .i64 z]) hw) rfl rfl ?_
 | refine sdA (by first | exact nbT rfl | exact rfl | omega | fail) ?_
 | refine sdA (by first | (and_intros <;> first | exact nbT rfl | rfl | omega | (simp only [lensB, lensC]; omega) | exact bytes_ok (nbT rfl) (by omega) (by simp only [lensB, lensC]; omega) | exact bytes_okN (nbT rfl) (by simp only [lensB, lensC]; omega)) | fail) ?_
 | fail
    all_goals
      conv => whnf
      first
      | (rw [show numFI b a0 false = (0, a, true) from hT.1.symm.trans (numL_none' hT.2.2.2.2.2.2.2 hx)]; exact OutB_plain rfl rfl rfl rfl rfl rfl rfl)
      | (rw [show numFI b a0 false = (0, a + 1, true) from hT.1.symm.trans (by rw [hT.2.2.2.2.2.1]; exact numL_big' hT.2.2.2.2.2.2.2 hx (by first | (left; omega) | (right; omega)))]; exact OutB_plain rfl rfl rfl rfl rfl rfl rfl)
      | (rw [show numFI b a0 false = (0, a + 1, true) from hT.1.symm.trans (by rw [hT.2.2.2.2.2.1]; exact (numL_fin' hT.2.2.2.2.2.2.2 hx (by omega) (by omega)).trans (if_neg ‹_›))]; exact OutB_plain rfl rfl rfl rfl rfl rfl rfl)
      | (rw [show numFI b a0 false = (n + ((x.toNat % 128 : Nat) : Int) * qF f, a + 1, false) from hT.1.symm.trans (by rw [hT.2.2.2.2.2.1]; exact (numL_fin' hT.2.2.2.2.2.2.2 hx (by omega) (by omega)).trans (if_pos ‹_›))]; exact OutB_plain rfl rfl rfl rfl rfl (congrArg (AV.int .i64) hw) rfl)
theorem textFI_big {b : List UInt8} {a : Nat} {f : Bool} (h : (numFI b a f).1 > 60) : textFI b a f = ([], (numFI b a f).2.1, true) := by unfold textFI; rw [if_pos h]
theorem textFI_ok' {b : List UInt8} {a : Nat} {f : Bool} (h : ¬ (numFI b a f).1 > 60) : textFI b a f = takeF b (numFI b a f).2.1 (numFI b a f).2.2 (numFI b a f).1 := by unfold textFI; rw [if_neg h]
theorem c_impl_text (b : List UInt8) (a : Nat) (f : Bool) (ha : a <= b.length) (hb : b.length <= 1073741824) : BC Tryz.prog 155 145 [.str b, .int .i64 (a : Int), .bool f] [] (.str (textFI b a f).1) [] [.str b, .int .i64 ((textFI b a f).2.1 : Int), .bool (textFI b a f).2.2] := by
  have ok := numFI_ok (b := b) (f := f) ha
  have nn := ok.nn
  have le := ok.le
  refine bc_of Tryz.func155 rfl (by kernel_rfl) 3 13 [.tmp 2] rfl rfl rfl (by decide) rfl ?_
  repeat' (conv => whnf); first
 | (refine nameB_dec (fun h => ?_) (fun h => ?_) <;> try simp only [lensB] at h)
 | refine splitB_true ?_
 | refine splitB_false ?_
 | refine CallB (c_impl_num b a f ha hb) rfl rfl rfl rfl rfl rfl ?_
 | refine CallB (c_impl_fail ..) rfl rfl rfl rfl rfl rfl ?_
 | refine CallB (c_impl_take b (numFI b a f).2.1 (numFI b a f).2.2 (numFI b a f).1 ok.hi hb nn le) rfl rfl rfl rfl rfl rfl ?_
 | fail
  all_goals
    conv => whnf
    first
    | (rw [textFI_big (b := b) (a := a) (f := f) ‹_›]; exact OutB_plain rfl rfl rfl rfl rfl rfl rfl)
    | (rw [textFI_ok' (b := b) (a := a) (f := f) ‹_›]; exact OutB_plain rfl rfl rfl rfl rfl rfl rfl)
theorem app_str {out : List (List UInt8)} {t : List UInt8} : out.map strC ++ [[AV.str t]] = (out ++ [t]).map strC := by
  rw [List.map_append]; rfl
theorem or_dec {p : Bool} {q : Prop} [Decidable q] (h : q) : true = (p || decide q) := by rw [decide_eq_true h, Bool.or_true]
theorem or_dec_no {p : Bool} {q : Prop} [Decidable q] (h : ¬ q) : p = (p || decide q) := by rw [decide_eq_false h, Bool.or_false]
theorem c_impl_texts (b : List UInt8) (a : Nat) (f : Bool) (ha : a <= b.length) (hb : b.length <= 1000000) : BC Tryz.prog 154 145 [.str b, .int .i64 (a : Int), .bool f] [] (.own 0) [⟨false, 9, 1, (textsFI b a f).1.map strC⟩] [.str b, .int .i64 ((textsFI b a f).2.1 : Int), .bool (textsFI b a f).2.2] := by
  have ok := numFI_ok (b := b) (f := f) ha
  have nn := ok.nn
  have le := ok.le
  refine bc_of Tryz.func154 rfl (by kernel_rfl) 3 31 [.tmp 2] rfl rfl rfl (by decide) rfl ?_
  repeat' (conv => whnf); first
 | refine side_and (side_of (one_lenC rfl rfl)) ?_
 | refine sdA (by first | (and_intros <;> first | exact nbT rfl | rfl | (intro e; exact absurd (AV.own.inj e) (by decide)) | (intro e; exact AV.noConfusion e)) | fail) ?_
 | refine side_and (side_of (app_boundC (L := out.map strC) rfl (by (try simp only [List.length_map, laT, List.length_take, List.length_set, List.length_drop]); omega) (nbT rfl))) ?_
 | refine nameB_true ?_
 | refine nameB_false ?_
 | (refine nameB_dec (fun h => ?_) (fun h => ?_) <;> try simp only [lensB] at h)
 | (refine nameB_cases (fun h => ?_) (fun h => ?_) <;> try simp only [nmL, lensB] at h)
 | refine splitB_true ?_
 | refine splitB_false ?_
 | ((refine Loop_nil 4 16384 9 1 rfl rfl (by decide) ?_; refine Loop_at [0, 3] [] (Nat × List (List UInt8) × Nat × Bool) (fun j => match j with | (k, out, c, g) => manyG (fun a => textFI b a false) k out c g = textsFI b a f /\ (k : Int) <= (numFI b a f).1 /\ c <= b.length /\ out.length <= c + 1 /\ (g = false -> out.length <= c)) (fun j => match j with | (k, out, c, g) => [(4, .own 16384), (5, .int .i64 ((numFI b a f).1 - (k : Int)))]) (fun j => match j with | (k, out, c, g) => [(0, ⟨true, 145, 3, [[.str b, .int .i64 (c : Int), .bool g]]⟩), (16384, ⟨false, 9, 1, out.map strC⟩)]) (fun j => match j with | (k, out, c, g) => k) ((numFI b a f).1.toNat, [], (numFI b a f).2.1, (numFI b a f).2.2 || decide ((numFI b a f).1 > 40)) ⟨by first | rfl | first | rfl | exact congrArg (AV.int .i64) (by omega) | exact congrArg (AV.int .i64) ((i64_wrap (by omega) (by omega)).trans (by omega)) | fail, by first | first | rfl | exact congrArg (AV.int .i64) (by omega) | exact congrArg (AV.int .i64) ((i64_wrap (by omega) (by omega)).trans (by omega)) | rfl | fail, trivial⟩ ⟨by first | rfl | first | rfl | exact congrArg (fun e => some (AObj.mk _ _ _ e)) app_str | exact congrArg (fun z => some (AObj.mk _ _ _ [[AV.str b, AV.int .i64 _, AV.bool z]])) (or_dec ‹_›) | exact congrArg (fun z => some (AObj.mk _ _ _ [[AV.str b, AV.int .i64 _, AV.bool z]])) (or_dec_no ‹_›) | fail | fail, by first | rfl | first | rfl | exact congrArg (fun e => some (AObj.mk _ _ _ e)) app_str | exact congrArg (fun z => some (AObj.mk _ _ _ [[AV.str b, AV.int .i64 _, AV.bool z]])) (or_dec ‹_›) | exact congrArg (fun z => some (AObj.mk _ _ _ [[AV.str b, AV.int .i64 _, AV.bool z]])) (or_dec_no ‹_›) | fail | fail, trivial⟩ (by (try dsimp only); first | (exact ⟨rfl, by omega, ok.hi, Nat.zero_le _, fun _ => Nat.zero_le _⟩) | fail) ?_; (conv => whnf); refine side_and (side_of (by first | exact fun ⟨k, out, c, g⟩ => rfl | exact fun ⟨k, out, c, g⟩ => by simp [headOk, closedE, closedO, closedL, AV.closed, hcap.closed, hasId, AObj.box, BK.ofB])) ?_; rintro ⟨k, out, c, g⟩ hT; try dsimp only at hT))
 | (refine Again_of (k - 1, out ++ [(textFI b c g).1], (textFI b c g).2.1, (textFI b c g).2.2) ⟨by first | rfl | first | rfl | exact congrArg (AV.int .i64) (by omega) | exact congrArg (AV.int .i64) ((i64_wrap (by omega) (by omega)).trans (by omega)) | fail, by first | first | rfl | exact congrArg (AV.int .i64) (by omega) | exact congrArg (AV.int .i64) ((i64_wrap (by omega) (by omega)).trans (by omega)) | rfl | fail, trivial⟩ ⟨by first | rfl | first | rfl | exact congrArg (fun e => some (AObj.mk _ _ _ e)) app_str | exact congrArg (fun z => some (AObj.mk _ _ _ [[AV.str b, AV.int .i64 _, AV.bool z]])) (or_dec ‹_›) | exact congrArg (fun z => some (AObj.mk _ _ _ [[AV.str b, AV.int .i64 _, AV.bool z]])) (or_dec_no ‹_›) | fail | fail, by first | rfl | first | rfl | exact congrArg (fun e => some (AObj.mk _ _ _ e)) app_str | exact congrArg (fun z => some (AObj.mk _ _ _ [[AV.str b, AV.int .i64 _, AV.bool z]])) (or_dec ‹_›) | exact congrArg (fun z => some (AObj.mk _ _ _ [[AV.str b, AV.int .i64 _, AV.bool z]])) (or_dec_no ‹_›) | fail | fail, trivial⟩ (by first | (and_intros <;> first | rfl | trivial) | fail) (by first | (and_intros <;> first | rfl | trivial) | fail) rfl rfl rfl (by (try dsimp only); first | ((have hg : g = false := ‹_›; subst hg; have ho := textFI_ok (b := b) (f := false) hT.2.2.1; have hl := hT.2.2.2.2 rfl; have lo := ho.lo; exact ⟨manyG_go hT.1 (by omega), by omega, ho.hi, by rw [laT]; show out.length + 1 <= _; omega, fun e => by have := textFI_go hT.2.2.1 e; rw [laT]; show out.length + 1 <= _; omega⟩)) | fail) (show _ < _ by (try dsimp only); omega))
 | refine CallB (c_impl_num b a f ha (by omega)) rfl rfl rfl rfl rfl rfl ?_
 | refine CallB (c_impl_fail ..) rfl rfl rfl rfl rfl rfl ?_
 | refine CallB (c_impl_text b c g hT.2.2.1 (by omega)) rfl rfl rfl rfl rfl rfl ?_
 | fail
  all_goals
    conv => whnf
    first
    | (rw [<- manyG_end hT.1 (by first | (left; omega) | (right; assumption))]; exact OutB_ids rfl rfl rfl ⟨⟨_, _, _, rfl, rfl⟩, trivial⟩ rfl rfl rfl rfl (flat_one (flat_map (fun _ => rfl) _)) rfl)
theorem oneF_no {b : List UInt8} {a : Nat} {f : Bool} (h : f = true \/ (a : Int) ≥ b.length) : oneF b a f = (0, a, true) := by
  cases f with
  | true => rfl
  | false =>
    unfold oneF
    rw [List.getElem?_eq_none_iff.2 (by have := h.resolve_left (by simp); omega)]
theorem oneF_yes {b : List UInt8} {a : Nat} {x : UInt8} (h : b[a]? = some x) : oneF b a false = ((x.toNat : Int), a + 1, false) := by
  unfold oneF
  rw [h]
theorem c_spec_one (b : List UInt8) (a : Nat) (f : Bool) (ha : a <= b.length) (hb : b.length <= 1073741824) : BC Tryz.prog 159 162 [.str b, .int .i64 (a : Int), .bool f] [] (.int .i64 (oneF b a f).1) [] [.str b, .int .i64 ((oneF b a f).2.1 : Int), .bool (oneF b a f).2.2] := by
  have hw2 := i64_wrap (e := (a : Int) + 1) (by omega) (by omega)
  have hw3 : IntKind.i64.wrap (IntKind.i64.wrap ((a : Int) + 1) - 1) = a := by rw [hw2, i64_wrap (by omega) (by omega)]; omega
  cases f with
  | true =>
    refine bc_of Tryz.func159 rfl (by kernel_rfl) 3 40 [.tmp 2] rfl rfl rfl (by decide) rfl ?_
    repeat' (conv => whnf); first
 | refine nameB_true ?_
 | refine splitB_true ?_
 | refine draw_text (by kernel_rfl) (by kernel_rfl) (by kernel_rfl) ?_
 | refine sdA (by first | (and_intros <;> first | rfl | omega | exact nbT rfl) | fail) ?_
 | fail
    all_goals
      conv => whnf
      exact OutB_plain rfl rfl rfl rfl rfl rfl rfl
  | false =>
    by_cases hl : (a : Int) ≥ b.length
    · rw [oneF_no (b := b) (a := a) (f := false) (.inr hl)]
      refine bc_of Tryz.func159 rfl (by kernel_rfl) 3 40 [.tmp 2] rfl rfl rfl (by decide) rfl ?_
      repeat' (conv => whnf); first
 | refine nameB_false ?_
 | refine nameB_dyes ‹_› ?_
 | refine splitB_true ?_
 | refine splitB_false ?_
 | refine draw_text (by kernel_rfl) (by kernel_rfl) (by kernel_rfl) ?_
 | refine sdA (by first | (and_intros <;> first | rfl | omega | exact nbT rfl) | fail) ?_
 | fail
      all_goals
        conv => whnf
        exact OutB_plain rfl rfl rfl rfl rfl rfl rfl
    · have hx : b[a]? = some b[a] := List.getElem?_eq_getElem (by omega)
      rw [oneF_yes hx]
      have hg : b.getD (IntKind.i64.wrap (IntKind.i64.wrap ((a : Int) + 1) - 1)).toNat 0 = b[a] := by
        rw [hw3, Int.toNat_natCast, List.getD_eq_getElem?_getD, hx]; rfl
      have hu := i64_wrap (e := (b[a].toNat : Int)) (by omega) (by have := b[a].toNat_lt; omega)
      refine bc_of Tryz.func159 rfl (by kernel_rfl) 3 40 [.tmp 2] rfl rfl rfl (by decide) rfl ?_
      repeat' (conv => whnf); first
 | refine nameB_false ?_
 | refine nameB_dno ‹_› ?_
 | refine splitB_false ?_
 | refine draw_text (by kernel_rfl) (by kernel_rfl) (by kernel_rfl) ?_
 | refine sdA (by first | exact nbT rfl | exact rfl | omega | fail) ?_
 | refine sdA (by first | (and_intros <;> first | rfl | omega | exact nbT rfl) | fail) ?_
 | fail
      all_goals
        conv => whnf
        refine OutB_plain rfl rfl rfl rfl rfl ?_ ?_
        · refine congrArg (AV.int .i64) ?_
          rw [hg]; exact hu
        · exact congrArg (fun z : Int => [AV.str b, AV.int .i64 z, AV.bool false]) hw2
section
variable {b : List UInt8} {s f : Nat} {n q : Int} {a : Nat} {x : UInt8}
theorem numM_none' (hf : 1 <= f) (h : b[a]? = none) : numM b s f n q a = (0, a, true) := by
  obtain ⟨f, rfl⟩ : ∃ g, f = g + 1 := ⟨f - 1, by omega⟩
  unfold numM; rw [h]
theorem numM_fin' (hf : 1 <= f) (h : b[a]? = some x) (h3 : x.toNat < 128) : numM b s f n q a = finS b s (n + ((x.toNat % 128 : Nat) : Int) * q) (a + 1) := by
  obtain ⟨f, rfl⟩ : ∃ g, f = g + 1 := ⟨f - 1, by omega⟩
  unfold numM; rw [h]; simp only; rw [if_pos h3]
theorem numM_go' (hf : 1 <= f) (h : b[a]? = some x) (h3 : ¬ x.toNat < 128) : numM b s f n q a = numM b s (f - 1) (n + ((x.toNat % 128 : Nat) : Int) * q) (q * 128) (a + 1) := by
  obtain ⟨f, rfl⟩ : ∃ g, f = g + 1 := ⟨f - 1, by omega⟩
  conv => lhs; unfold numM
  rw [h]; simp only; rw [if_neg h3]; rfl
theorem numM_zero (hf : f = 0) : numM b s f n q a = finS b s n a := by subst hf; rfl
theorem finS_big (h : n > 1000000000) : finS b s n a = (0, a, true) := by unfold finS; rw [if_pos (.inl h)]
theorem finS_ne (h : ¬ numB n = (b.take a).drop s) : finS b s n a = (0, a, true) := by unfold finS; rw [if_pos (.inr h)]
theorem finS_yes (h : ¬ n > 1000000000) (h2 : numB n = (b.take a).drop s) : finS b s n a = (n, a, false) := by unfold finS; rw [if_neg (fun e => e.elim h (fun e => e h2))]
end
theorem c_spec_one1_no (b : List UInt8) (a : Nat) (ha : a <= b.length) (hb : b.length <= 1073741824) (h : b[a]? = none) : BC Tryz.prog 159 162 [.str b, .int .i64 (a : Int), .bool false] [] (.int .i64 0) [] [.str b, .int .i64 (a : Int), .bool true] := by
  have := c_spec_one b a false ha hb
  rw [oneF_no (.inr (by have := List.getElem?_eq_none_iff.1 h; omega))] at this
  exact this
theorem c_spec_one1 (b : List UInt8) (a : Nat) (x : UInt8) (hb : b.length <= 1073741824) (h : b[a]? = some x) : BC Tryz.prog 159 162 [.str b, .int .i64 (a : Int), .bool false] [] (.int .i64 (x.toNat : Int)) [] [.str b, .int .i64 ((a + 1 : Nat) : Int), .bool false] := by
  have hlt := (List.getElem?_eq_some_iff.1 h).1
  have := c_spec_one b a false (by omega) hb
  rw [oneF_yes h] at this
  exact this
theorem num_wS {x : UInt8} {n : Int} {f : Nat} (h0 : 0 <= n) (h1 : n <= 34359738368) : IntKind.i64.wrap (n + IntKind.i64.wrap (((x.toNat : Int).tmod 128) * qF f)) = n + ((x.toNat % 128 : Nat) : Int) * qF f := by
  have hb := rq_bnd (x := x) (f := f)
  have e1 : ((x.toNat : Int).tmod 128) = ((x.toNat % 128 : Nat) : Int) := by
    rw [Int.tmod_eq_emod_of_nonneg (by omega)]
    omega
  rw [e1, i64_wrap (e := ((x.toNat % 128 : Nat) : Int) * qF f) (by omega) (by omega), i64_wrap (by omega) (by omega)]
theorem rq_lt {x : UInt8} {f : Nat} {n : Int} (h : n < qF f) : n + ((x.toNat % 128 : Nat) : Int) * qF f < qF f * 128 := by
  have hq := qF_bnd f
  have h2 : ((x.toNat % 128 : Nat) : Int) * qF f <= 127 * qF f := Int.mul_le_mul_of_nonneg_right (by omega) (by omega)
  omega
theorem c_spec_num (b : List UInt8) (a0 : Nat) (f : Bool) (ha : a0 <= b.length) (hb : b.length <= 1073741824) : BC Tryz.prog 156 162 [.str b, .int .i64 (a0 : Int), .bool f] [] (.int .i64 (numFS b a0 f).1) [] [.str b, .int .i64 ((numFS b a0 f).2.1 : Int), .bool (numFS b a0 f).2.2] := by
  cases f with
  | true =>
    refine bc_of Tryz.func156 rfl (by kernel_rfl) 3 55 [.tmp 2] rfl rfl rfl (by decide) rfl ?_
    repeat' (conv => whnf); first
 | refine nameB_true ?_
 | refine splitB_true ?_
 | refine draw_text (by kernel_rfl) (by kernel_rfl) (by kernel_rfl) ?_
 | ((refine Loop_at [0, 3] [] (Nat) (fun u => u <= 5) (fun u => [(4, .int .i64 0), (5, .int .i64 1), (6, .int .i64 0)]) (fun u => [(0, ⟨true, 162, 3, [[.str b, .int .i64 (a0 : Int), .bool true]]⟩)]) (fun u => 0) 0 ⟨by first | (simp_all <;> fail) | rfl | fail, by first | (simp_all <;> fail) | rfl | fail, by first | (simp_all <;> fail) | rfl | fail, trivial⟩ ⟨by first | rfl | rfl | fail | fail, trivial⟩ (by (try dsimp only); first | (exact Nat.zero_le _) | fail) ?_; (conv => whnf); refine side_and (side_of (by first | exact fun u => rfl | exact fun u => by simp [headOk, closedE, closedO, closedL, AV.closed, hcap.closed, hasId, AObj.box, BK.ofB])) ?_; rintro u hT; try dsimp only at hT))
 | refine CallB (c_spec_one b a0 true ha hb) rfl rfl rfl rfl rfl rfl ?_
 | refine sdA (by first | exact nbT rfl | exact rfl | omega | fail) ?_
 | refine sdA (by first | (and_intros <;> first | rfl | omega | exact nbT rfl) | fail) ?_
 | fail
    all_goals
      conv => whnf
      exact OutB_plain rfl rfl rfl rfl rfl rfl rfl
  | false =>
    refine bc_of Tryz.func156 rfl (by kernel_rfl) 3 55 [.tmp 2] rfl rfl rfl (by decide) rfl ?_
    repeat' (conv => whnf); first
 | refine nameB_true ?_
 | refine nameB_false ?_
 | (refine nameB_dec (fun h => ?_) (fun h => ?_) <;> try simp only [lensB] at h)
 | (refine nameB_cases (fun h => ?_) (fun h => ?_) <;> try simp only [nmL, lensB] at h)
 | refine splitB_true ?_
 | refine splitB_false ?_
 | refine draw_text (by kernel_rfl) (by kernel_rfl) (by kernel_rfl) ?_
 | ((refine Loop_at [0, 3] [] (Nat × Int × Nat) (fun j => match j with | (f, n, a) => numM b a0 f n (qF (f + 1)) a = numM b a0 5 0 1 a0 /\ a + f = a0 + 5 /\ a <= b.length /\ 0 <= n /\ n < qF (f + 1) /\ a0 <= a) (fun j => match j with | (f, n, a) => [(4, .int .i64 n), (5, .int .i64 (qF (f + 1))), (6, .int .i64 (5 - (f : Int)))]) (fun j => match j with | (f, n, a) => [(0, ⟨true, 162, 3, [[.str b, .int .i64 (a : Int), .bool false]]⟩)]) (fun j => match j with | (f, n, a) => f) (5, 0, a0) ⟨by first | first | rfl | exact congrArg (AV.int .i64) hw | exact congrArg (AV.int .i64) ((i64_wrap (by omega) (by omega)).trans ((qF_next (f := f + 1) (by omega) (by omega)).symm.trans (congrArg qF (by omega)))) | exact congrArg (AV.int .i64) ((i64_wrap (by omega) (by omega)).trans (by omega)) | rfl | fail, by first | first | rfl | exact congrArg (AV.int .i64) hw | exact congrArg (AV.int .i64) ((i64_wrap (by omega) (by omega)).trans ((qF_next (f := f + 1) (by omega) (by omega)).symm.trans (congrArg qF (by omega)))) | exact congrArg (AV.int .i64) ((i64_wrap (by omega) (by omega)).trans (by omega)) | rfl | fail, by first | first | rfl | exact congrArg (AV.int .i64) hw | exact congrArg (AV.int .i64) ((i64_wrap (by omega) (by omega)).trans ((qF_next (f := f + 1) (by omega) (by omega)).symm.trans (congrArg qF (by omega)))) | exact congrArg (AV.int .i64) ((i64_wrap (by omega) (by omega)).trans (by omega)) | rfl | fail, trivial⟩ ⟨by first | rfl | rfl | fail | fail, trivial⟩ (by (try dsimp only); first | (exact ⟨rfl, rfl, ha, by omega, by decide, Nat.le_refl _⟩) | fail) ?_; (conv => whnf); refine side_and (side_of (by first | exact fun ⟨f, n, a⟩ => rfl | exact fun ⟨f, n, a⟩ => by simp [headOk, closedE, closedO, closedL, AV.closed, hcap.closed, hasId, AObj.box, BK.ofB])) ?_; rintro ⟨f, n, a⟩ hT; try dsimp only at hT))
 | (refine Again_of (f - 1, n + ((x.toNat % 128 : Nat) : Int) * qF (f + 1), a + 1) ⟨by first | first | rfl | exact congrArg (AV.int .i64) hw | exact congrArg (AV.int .i64) ((i64_wrap (by omega) (by omega)).trans ((qF_next (f := f + 1) (by omega) (by omega)).symm.trans (congrArg qF (by omega)))) | exact congrArg (AV.int .i64) ((i64_wrap (by omega) (by omega)).trans (by omega)) | rfl | fail, by first | first | rfl | exact congrArg (AV.int .i64) hw | exact congrArg (AV.int .i64) ((i64_wrap (by omega) (by omega)).trans ((qF_next (f := f + 1) (by omega) (by omega)).symm.trans (congrArg qF (by omega)))) | exact congrArg (AV.int .i64) ((i64_wrap (by omega) (by omega)).trans (by omega)) | rfl | fail, by first | first | rfl | exact congrArg (AV.int .i64) hw | exact congrArg (AV.int .i64) ((i64_wrap (by omega) (by omega)).trans ((qF_next (f := f + 1) (by omega) (by omega)).symm.trans (congrArg qF (by omega)))) | exact congrArg (AV.int .i64) ((i64_wrap (by omega) (by omega)).trans (by omega)) | rfl | fail, trivial⟩ ⟨by first | rfl | rfl | fail | fail, trivial⟩ (by first | (and_intros <;> first | rfl | trivial) | fail) (by first | (and_intros <;> first | rfl | trivial) | fail) rfl rfl rfl (by (try dsimp only); first | ((have hq := qF_next (f := f + 1) (by omega) (by omega); have hlt2 := rq_lt (x := x) hT.2.2.2.2.1; have e1 : f - 1 + 1 = f + 1 - 1 := (by omega); exact ⟨by rw [e1, hq]; exact (numM_go' (by omega) hx (by omega)).symm.trans hT.1, by omega, by omega, by omega, by rw [e1, hq]; exact hlt2, by omega⟩)) | fail) (show _ < _ by (try dsimp only); omega))
 | ((rcases hx : b[a]? with _ | x <;> first | refine CallB (c_spec_one1_no b a hT.2.2.1 hb hx) rfl rfl rfl rfl rfl rfl ?_ | (have hqb := qF_bnd (f + 1); have hw := num_wS (x := x) (n := n) (f := f + 1) hT.2.2.2.1 (by omega); have hrq := rq_bnd (x := x) (f := f + 1); have hlt := (List.getElem?_eq_some_iff.1 hx).1; refine CallB (c_spec_one1 b a x hb hx) rfl rfl rfl rfl rfl rfl ?_)))
 | refine CallD0 (c_spec_l1NumB9 (n + ((x.toNat % 128 : Nat) : Int) * qF (f + 1)) (by omega) (by omega)) (congrArg (fun z : Int => [AV.int .i64 z]) hw) rfl rfl ?_
 | refine CallD0 (c_spec_l1NumB9 n hT.2.2.2.1 (by omega)) rfl rfl rfl ?_
 | refine sdA (by first | exact nbT rfl | exact rfl | omega | fail) ?_
 | refine sdA (by first | (and_intros <;> first | rfl | omega | exact nbT rfl) | fail) ?_
 | fail
    all_goals
      conv => whnf
      first
      | (rw [show numFS b a0 false = (0, a, true) from hT.1.symm.trans (numM_none' (by omega) hx)]; exact OutB_plain rfl rfl rfl rfl rfl rfl rfl)
      | (rw [show numFS b a0 false = (0, a + 1, true) from hT.1.symm.trans ((numM_fin' (by omega) hx (by omega)).trans (by first | exact finS_big (by omega) | exact finS_ne ‹_›))]; exact OutB_plain rfl rfl rfl rfl rfl rfl rfl)
      | (rw [show numFS b a0 false = (n + ((x.toNat % 128 : Nat) : Int) * qF (f + 1), a + 1, false) from hT.1.symm.trans ((numM_fin' (by omega) hx (by omega)).trans (finS_yes (by omega) ‹_›))]; exact OutB_plain rfl rfl rfl rfl rfl (congrArg (AV.int .i64) hw) rfl)
      | (rw [show numFS b a0 false = (0, a, true) from hT.1.symm.trans ((numM_zero (by omega)).trans (by first | exact finS_big (by omega) | exact finS_ne ‹_›))]; exact OutB_plain rfl rfl rfl rfl rfl rfl rfl)
      | (rw [show numFS b a0 false = (n, a, false) from hT.1.symm.trans ((numM_zero (by omega)).trans (finS_yes (by omega) ‹_›))]; exact OutB_plain rfl rfl rfl rfl rfl rfl rfl)
  theorem textFS_no {b : List UInt8} {a : Nat} {f : Bool} (h : (numFS b a f).2.2 = true \/ (numFS b a f).1 > 60 \/ ((numFS b a f).2.1 : Int) + (numFS b a f).1 > b.length) : textFS b a f = ([], (numFS b a f).2.1, true) := by unfold textFS; rw [if_pos h]
theorem textFS_yes {b : List UInt8} {a : Nat} {f : Bool} (h : (numFS b a f).2.2 = false) (h1 : ¬ (numFS b a f).1 > 60) (h2 : ¬ ((numFS b a f).2.1 : Int) + (numFS b a f).1 > b.length) : textFS b a f = ((b.take ((numFS b a f).2.1 + (numFS b a f).1.toNat)).drop (numFS b a f).2.1, (numFS b a f).2.1 + (numFS b a f).1.toNat, false) := by
  unfold textFS
  rw [if_neg (fun e => e.elim (fun e => by rw [h] at e; cases e) (fun e => e.elim h1 h2))]
theorem c_spec_text (b : List UInt8) (a : Nat) (f : Bool) (ha : a <= b.length) (hb : b.length <= 1073741824) : BC Tryz.prog 161 162 [.str b, .int .i64 (a : Int), .bool f] [] (.str (textFS b a f).1) [] [.str b, .int .i64 ((textFS b a f).2.1 : Int), .bool (textFS b a f).2.2] := by
  have ok := numFS_ok (b := b) (f := f) ha
  have nn := ok.nn
  have le := ok.le
  have hi := ok.hi
  have hw2 := i64_wrap (e := ((numFS b a f).2.1 : Int) + (numFS b a f).1) (by omega) (by omega)
  have hw3 : IntKind.i64.wrap (IntKind.i64.wrap (((numFS b a f).2.1 : Int) + (numFS b a f).1) - (numFS b a f).1) = ((numFS b a f).2.1 : Int) := by rw [hw2, i64_wrap (by omega) (by omega)]; omega
  refine bc_of Tryz.func161 rfl (by kernel_rfl) 3 54 [.tmp 2] rfl rfl rfl (by decide) rfl ?_
  repeat' (conv => whnf); first
 | (refine nameB_dec (fun h => ?_) (fun h => ?_) <;> try simp only [lensB] at h)
 | (refine nameB_cases (fun h => ?_) (fun h => ?_) <;> try simp only [nmL, lensB] at h)
 | refine splitB_true ?_
 | refine splitB_false ?_
 | refine draw_text (by kernel_rfl) (by kernel_rfl) (by kernel_rfl) ?_
 | refine CallB (c_spec_num b a f ha hb) rfl rfl rfl rfl rfl rfl ?_
 | refine sdA (by first | exact nbT rfl | exact rfl | omega | fail) ?_
 | refine sdA (by first | (and_intros <;> first | rfl | omega | exact nbT rfl) | fail) ?_
 | fail
  all_goals
    conv => whnf
    first
    | (rw [textFS_no (b := b) (a := a) (f := f) (by first | (left; assumption) | (right; left; assumption) | (right; right; omega))]; exact OutB_plain rfl rfl rfl rfl rfl rfl rfl)
    | (rw [textFS_yes (b := b) (a := a) (f := f) ‹_› ‹_› (by omega)]
       refine OutB_plain rfl rfl rfl rfl rfl ?_ ?_
       · refine congrArg AV.str ?_
         rw [hw3, hw2, show (((numFS b a f).2.1 : Int) + (numFS b a f).1).toNat = (numFS b a f).2.1 + (numFS b a f).1.toNat by omega, Int.toNat_natCast]
       · refine (congrArg (fun z : Int => [AV.str b, AV.int .i64 z, AV.bool _]) hw2).trans ?_
         rw [show ((numFS b a f).2.1 : Int) + (numFS b a f).1 = (((numFS b a f).2.1 + (numFS b a f).1.toNat : Nat) : Int) by omega]
         simp only [*])
theorem textFS_go {b : List UInt8} {a : Nat} (ha : a <= b.length) (h : (textFS b a false).2.2 = false) : a < (textFS b a false).2.1 := by
  have r := textF_rel (b := b) (a := a) (f := false) ha
  have h1 : (textFI b a false).2.2 = false := r.1.trans h
  rw [<- r.2 h]
  exact textFI_go ha h1
def wB (w : WriteT) : List UInt8 := textB w.Key ++ flagB w.Gone ++ textB w.Val
def wG (ws : List WriteT) : List UInt8 := (ws.map wB).flatten
def recH (r : RecT) : List UInt8 := numB r.Kind ++ numB r.Txn ++ numB r.Time ++ numB r.Lead ++ flagB r.Yes ++ textsB r.Reads ++ numB (r.Writes.length : Nat)
def recB (r : RecT) : List UInt8 := sealB (recH r ++ wG r.Writes)
def entB (e : EntryT) : List UInt8 := numB e.Term ++ recB e.Rec
theorem wB_len (w : WriteT) : (wB w).length <= 2 * (w.Key.length + w.Val.length) + 3 := by
  have h1 := textB_len w.Key
  have h2 := textB_len w.Val
  unfold wB
  rw [laT, laT, flagB_len]
  omega
theorem wG_len (ws : List WriteT) : (wG ws).length <= 4 * wL WriteT.w ws := by
  unfold wG wL
  induction ws with
  | nil => simp
  | cons x l ih =>
    have := wB_len x
    have e : WriteT.w x = x.Key.length + x.Val.length := rfl
    simp only [List.map_cons, List.flatten_cons, laT, List.length_cons, List.sum_cons] at ih ⊢
    omega
theorem wG_take (ws : List WriteT) (k : Nat) : (wG (ws.take k)).length <= (wG ws).length := by
  conv => rhs; rw [<- List.take_append_drop k ws]
  unfold wG
  rw [List.map_append, List.flatten_append, laT]
  omega
theorem wG_next {ws : List WriteT} {k : Nat} {x : WriteT} {A : List UInt8} (hx : ws[k]? = some x) : (A ++ wG (ws.take k)) ++ (textB x.Key ++ flagB x.Gone ++ textB x.Val) = A ++ wG (ws.take (k + 1)) := by
  unfold wG
  rw [take_get hx, List.map_append, List.flatten_append, List.append_assoc]
  simp [wB]
theorem rec_nums {r : RecT} (h : okRec r = true) : (0 <= r.Kind /\ r.Kind <= 4) /\ (0 <= r.Txn /\ r.Txn <= 60) /\ (0 <= r.Time /\ r.Time <= 1048576) /\ (0 <= r.Lead /\ r.Lead <= 3) := by
  unfold okRec at h
  split at h
  · simp only [baT, okTime, inB, decide_eq_true_eq] at h
    omega
  · simp only [baT, decide_eq_true_eq] at h
    obtain ⟨⟨⟨h1, _⟩, _⟩, h2⟩ := h
    split at h2
    · rename_i hk
      simp only [baT, inB, decide_eq_true_eq] at h2
      have h3 := h2.2
      split at h3
      · simp only [okTime, inB, baT, decide_eq_true_eq] at h3; omega
      · simp only [decide_eq_true_eq] at h3; omega
    · simp only [baT, okTime, inB, decide_eq_true_eq] at h2
      omega
theorem textsB_len (l : List (List UInt8)) : (textsB l).length <= l.length + 1 + 2 * wL List.length l := by
  have h1 := numB_len (l.length : Nat)
  have h2 := textsG_len l
  unfold textsB
  rw [laT]
  omega
theorem rec_w {r : RecT} (hw : r.w <= 1048576) : wL List.length r.Reads <= 1048576 /\ wL WriteT.w r.Writes <= 1048576 := by
  have e : r.w = wL List.length r.Reads + wL WriteT.w r.Writes := rfl
  omega
theorem recH_len {r : RecT} (hg : okRec r = true) (hw : r.w <= 1048576) : (recH r).length <= 20000000 := by
  obtain ⟨⟨k0, k1⟩, ⟨t0, t1⟩, ⟨m0, m1⟩, ⟨l0, l1⟩⟩ := rec_nums hg
  obtain ⟨e1, e2⟩ := rec_w hw
  have e3 : r.Writes.length <= wL WriteT.w r.Writes := wL_len
  have e4 : r.Reads.length <= wL List.length r.Reads := wL_len
  have a1 := numB_len r.Kind
  have a2 := numB_len r.Txn
  have a3 := numB_len r.Time
  have a4 := numB_len r.Lead
  have a5 := flagB_len r.Yes
  have a6 := textsB_len r.Reads
  have a7 := numB_len (r.Writes.length : Nat)
  unfold recH
  simp only [laT]
  omega
theorem wk_len {ws : List WriteT} {k : Nat} {y : WriteT} (hy : ws[k]? = some y) : y.Key.length + y.Val.length <= wL WriteT.w ws := (wL_mem (w := WriteT.w) (mgE hy)).2
theorem c_impl_recBytes (r : RecT) (hg : okRec r = true) (hw : r.w <= 1048576) : PC Tryz.prog false 96 [.agg r.cells] (.str (recB r)) [] := by
  obtain ⟨⟨k0, k1⟩, ⟨t0, t1⟩, ⟨m0, m1⟩, ⟨l0, l1⟩⟩ := rec_nums hg
  obtain ⟨e1, e2⟩ := rec_w hw
  have e3 : r.Writes.length <= wL WriteT.w r.Writes := wL_len
  have e4 : r.Reads.length <= wL List.length r.Reads := wL_len
  have a1 := numB_len r.Kind
  have a2 := numB_len r.Txn
  have a3 := numB_len r.Time
  have a4 := numB_len r.Lead
  have a5 := flagB_len r.Yes
  have a6 := textsB_len r.Reads
  have a7 := numB_len (r.Writes.length : Nat)
  have a8 := wG_len r.Writes
  have a9 := recH_len hg hw
  refine pc_at Tryz.func96 rfl (by kernel_rfl) 57 [.tmp 2] rfl rfl ?_
  repeat' (conv => whnf); first
 | exact side_of (by first | (have b1 := textB_len y.Key; have b2 := textB_len y.Val; have b3 := flagB_len y.Gone; have b4 := wG_take r.Writes k; (try simp only [laT]); omega) | (simp only [laT]; omega) | fail)
 | refine nameB_self (b := r.Yes) ?_
 | refine nameB_self (b := y.Gone) ?_
 | (refine ix_as (f := WriteT.cells) (m := k) rfl (by omega) (fun y hy => ?_); have hyw := wk_len hy)
 | (refine nameB_dec (fun h => ?_) (fun h => ?_) <;> try simp only [lensB] at h)
 | refine splitB_true ?_
 | refine splitB_false ?_
 | refine draw_text (by kernel_rfl) (by kernel_rfl) (by kernel_rfl) ?_
 | ((refine Loop_at [35, 36] [] (Nat) (fun k => k <= r.Writes.length) (fun k => [(37, .int .i64 (k : Nat)), (3, .str (recH r ++ wG (r.Writes.take k)))]) (fun k => []) (fun k => r.Writes.length - k) 0 ⟨by first | first | exact congrArg AV.str (wG_next hy) | exact congrArg AV.str (by simp [wG, recH]) | rfl | fail, by first | rfl | first | exact congrArg AV.str (wG_next hy) | exact congrArg AV.str (by simp [wG, recH]) | fail, trivial⟩ trivial (by (try dsimp only); first | (exact Nat.zero_le _) | fail) ?_; (conv => whnf); refine side_and (side_of (by first | exact fun k => rfl | exact fun k => by simp [headOk, closedE, closedO, closedL, AV.closed, hcap.closed, hasId, AObj.box, BK.ofB])) ?_; rintro k hT; try dsimp only at hT))
 | (refine Again_of (k + 1) ⟨by first | rfl | exact i64_next (by omega) | first | exact congrArg AV.str (wG_next hy) | exact congrArg AV.str (by simp [wG, recH]) | fail, by first | rfl | first | exact congrArg AV.str (wG_next hy) | exact congrArg AV.str (by simp [wG, recH]) | fail, trivial⟩ trivial (by first | (and_intros <;> first | rfl | trivial) | fail) (by first | (and_intros <;> first | rfl | trivial) | fail) rfl rfl rfl (by (try dsimp only); first | ((show k + 1 <= _; omega)) | fail) (show _ < _ by (try dsimp only); omega))
 | (refine Call0 (c_impl_seal (recH r ++ wG r.Writes) (by rw [laT]; omega)) (congrArg (fun m : List WriteT => [AV.str (recH r ++ wG m)]) (List.take_of_length_le (by omega))) rfl ?_)
 | refine CallD0 (c_impl_numBytes (r.Writes.length : Nat) (by omega) (by omega)) (congrArg (fun n : Nat => [AV.int .i64 (n : Int)]) (List.length_map WriteT.cells)) rfl rfl ?_
 | refine CallD0 (c_impl_numBytes r.Kind k0 (by omega)) rfl rfl rfl ?_
 | refine CallD0 (c_impl_numBytes r.Txn t0 (by omega)) rfl rfl rfl ?_
 | refine CallD0 (c_impl_numBytes r.Time m0 (by omega)) rfl rfl rfl ?_
 | refine CallD0 (c_impl_numBytes r.Lead l0 (by omega)) rfl rfl rfl ?_
 | refine CallD0 (c_impl_flagByte r.Yes) rfl rfl rfl ?_
 | refine CallD0 (c_impl_textsBytes r.Reads e1) rfl rfl rfl ?_
 | refine CallD0 (c_impl_textBytes y.Key (by omega)) rfl rfl rfl ?_
 | refine CallD0 (c_impl_flagByte y.Gone) rfl rfl rfl ?_
 | refine CallD0 (c_impl_textBytes y.Val (by omega)) rfl rfl rfl ?_
 | refine sdA ⟨nbT rfl, rfl⟩ ?_
 | refine sdA (by first | exact nbT rfl | exact rfl | omega | fail) ?_
 | refine sdA (by first | (and_intros <;> first | rfl | omega | exact nbT rfl) | fail) ?_
 | refine sdA (by first | (and_intros <;> first | exact nbT rfl | rfl | omega | (simp only [lensB, lensC]; omega) | exact bytes_ok (nbT rfl) (by omega) (by simp only [lensB, lensC]; omega) | exact bytes_okN (nbT rfl) (by simp only [lensB, lensC]; omega)) | fail) ?_
 | refine side_and ?_ ?_
 | fail
  all_goals
    conv => whnf
    exact OutA_plain rfl rfl rfl
theorem c_spec_l4Bytes (r : RecT) (hg : okRec r = true) (hw : r.w <= 1048576) : PC Tryz.prog false 78 [.agg r.cells] (.str (recB r)) [] := by
  obtain ⟨⟨k0, k1⟩, ⟨t0, t1⟩, ⟨m0, m1⟩, ⟨l0, l1⟩⟩ := rec_nums hg
  obtain ⟨e1, e2⟩ := rec_w hw
  have e3 : r.Writes.length <= wL WriteT.w r.Writes := wL_len
  have e4 : r.Reads.length <= wL List.length r.Reads := wL_len
  have a1 := numB_len r.Kind
  have a2 := numB_len r.Txn
  have a3 := numB_len r.Time
  have a4 := numB_len r.Lead
  have a5 := flagB_len r.Yes
  have a6 := textsB_len r.Reads
  have a7 := numB_len (r.Writes.length : Nat)
  have a8 := wG_len r.Writes
  have a9 := recH_len hg hw
  refine pc_at Tryz.func78 rfl (by kernel_rfl) 57 [.tmp 2] rfl rfl ?_
  repeat' (conv => whnf); first
 | exact side_of (by first | (have b1 := textB_len y.Key; have b2 := textB_len y.Val; have b3 := flagB_len y.Gone; have b4 := wG_take r.Writes k; (try simp only [laT]); omega) | (simp only [laT]; omega) | fail)
 | refine nameB_self (b := r.Yes) ?_
 | refine nameB_self (b := y.Gone) ?_
 | (refine ix_as (f := WriteT.cells) (m := k) rfl (by omega) (fun y hy => ?_); have hyw := wk_len hy)
 | (refine nameB_dec (fun h => ?_) (fun h => ?_) <;> try simp only [lensB] at h)
 | refine splitB_true ?_
 | refine splitB_false ?_
 | refine draw_text (by kernel_rfl) (by kernel_rfl) (by kernel_rfl) ?_
 | ((refine Loop_at [35, 36] [] (Nat) (fun k => k <= r.Writes.length) (fun k => [(37, .int .i64 (k : Nat)), (3, .str (recH r ++ wG (r.Writes.take k)))]) (fun k => []) (fun k => r.Writes.length - k) 0 ⟨by first | first | exact congrArg AV.str (wG_next hy) | exact congrArg AV.str (by simp [wG, recH]) | rfl | fail, by first | rfl | first | exact congrArg AV.str (wG_next hy) | exact congrArg AV.str (by simp [wG, recH]) | fail, trivial⟩ trivial (by (try dsimp only); first | (exact Nat.zero_le _) | fail) ?_; (conv => whnf); refine side_and (side_of (by first | exact fun k => rfl | exact fun k => by simp [headOk, closedE, closedO, closedL, AV.closed, hcap.closed, hasId, AObj.box, BK.ofB])) ?_; rintro k hT; try dsimp only at hT))
 | (refine Again_of (k + 1) ⟨by first | rfl | exact i64_next (by omega) | first | exact congrArg AV.str (wG_next hy) | exact congrArg AV.str (by simp [wG, recH]) | fail, by first | rfl | first | exact congrArg AV.str (wG_next hy) | exact congrArg AV.str (by simp [wG, recH]) | fail, trivial⟩ trivial (by first | (and_intros <;> first | rfl | trivial) | fail) (by first | (and_intros <;> first | rfl | trivial) | fail) rfl rfl rfl (by (try dsimp only); first | ((show k + 1 <= _; omega)) | fail) (show _ < _ by (try dsimp only); omega))
 | (refine Call0 (c_spec_l1Seal (recH r ++ wG r.Writes) (by rw [laT]; omega)) (congrArg (fun m : List WriteT => [AV.str (recH r ++ wG m)]) (List.take_of_length_le (by omega))) rfl ?_)
 | refine CallD0 (c_spec_l1NumB (r.Writes.length : Nat) (by omega) (by omega)) (congrArg (fun n : Nat => [AV.int .i64 (n : Int)]) (List.length_map WriteT.cells)) rfl rfl ?_
 | refine CallD0 (c_spec_l1NumB r.Kind k0 (by omega)) rfl rfl rfl ?_
 | refine CallD0 (c_spec_l1NumB r.Txn t0 (by omega)) rfl rfl rfl ?_
 | refine CallD0 (c_spec_l1NumB r.Time m0 (by omega)) rfl rfl rfl ?_
 | refine CallD0 (c_spec_l1NumB r.Lead l0 (by omega)) rfl rfl rfl ?_
 | refine CallD0 (c_spec_l4Flag r.Yes) rfl rfl rfl ?_
 | refine CallD0 (c_spec_l1TextsB r.Reads e1) rfl rfl rfl ?_
 | refine CallD0 (c_spec_l1TextB y.Key (by omega)) rfl rfl rfl ?_
 | refine CallD0 (c_spec_l4Flag y.Gone) rfl rfl rfl ?_
 | refine CallD0 (c_spec_l1TextB y.Val (by omega)) rfl rfl rfl ?_
 | refine sdA ⟨nbT rfl, rfl⟩ ?_
 | refine sdA (by first | exact nbT rfl | exact rfl | omega | fail) ?_
 | refine sdA (by first | (and_intros <;> first | rfl | omega | exact nbT rfl) | fail) ?_
 | refine sdA (by first | (and_intros <;> first | exact nbT rfl | rfl | omega | (simp only [lensB, lensC]; omega) | exact bytes_ok (nbT rfl) (by omega) (by simp only [lensB, lensC]; omega) | exact bytes_okN (nbT rfl) (by simp only [lensB, lensC]; omega)) | fail) ?_
 | refine side_and ?_ ?_
 | fail
  all_goals
    conv => whnf
    exact OutA_plain rfl rfl rfl
theorem recB_len {r : RecT} (hg : okRec r = true) (hw : r.w <= 1048576) : (recB r).length <= 40000000 := by
  have h1 := recH_len hg hw
  have h2 := wG_len r.Writes
  have h3 := (rec_w hw).2
  unfold recB sealB threeB
  simp only [laT, List.length_cons, List.length_nil]
  omega
def okEnt (e : EntryT) : Bool := inB 1 e.Term 200 && okRec e.Rec
theorem okEnt_rec {e : EntryT} (h : okEnt e = true) : okRec e.Rec = true /\ (1 <= e.Term /\ e.Term <= 200) := by
  unfold okEnt at h
  simp only [baT, inB, decide_eq_true_eq] at h
  exact ⟨h.2, h.1⟩
theorem c_spec_l11Bytes (e : EntryT) (hg : okEnt e = true) (hw : e.w <= 1048576) : PC Tryz.prog false 40 [.agg e.cells] (.str (entB e)) [] := by
  obtain ⟨h1, h2⟩ := okEnt_rec hg
  have a1 := numB_len e.Term
  have a2 := recB_len h1 hw
  refine pc_at Tryz.func40 rfl (by kernel_rfl) 10 [.tmp 2] rfl rfl ?_
  repeat' (conv => whnf); first
 | refine draw_text (by kernel_rfl) (by kernel_rfl) (by kernel_rfl) ?_
 | refine CallD0 (c_spec_l1NumB e.Term (by omega) (by omega)) rfl rfl rfl ?_
 | refine CallD0 (c_spec_l4Bytes e.Rec h1 hw) rfl rfl rfl ?_
 | refine sdA (by first | exact nbT rfl | exact rfl | omega | fail) ?_
 | fail
  all_goals
    conv => whnf
    exact OutA_plain rfl rfl rfl
def entR (e : EntryT) : List UInt8 := match okEnt e with | true => entB e | false => []
theorem entR_yes {e : EntryT} (h : okEnt e = true) : entR e = entB e := by unfold entR; rw [h]
theorem entR_no {e : EntryT} (h : okEnt e = false) : entR e = [] := by unfold entR; rw [h]
theorem ent_w {e : EntryT} (hw : e.w <= 1048576) : e.Rec.Writes.length <= 1048576 /\ e.Rec.Reads.length <= 1048576 := by
  obtain ⟨e1, e2⟩ := rec_w (r := e.Rec) hw
  have e3 := wL_len (w := WriteT.w) (xs := e.Rec.Writes)
  have e4 := wL_len (w := List.length) (xs := e.Rec.Reads)
  omega
theorem c_spec_EntryBytes (e : EntryT) (hok : e.ok) (hw : e.w <= 1048576) : PC Tryz.prog false 15 [.agg e.cells] (.tup [.str (entR e), .bool (okEnt e)]) [] := by
  have hl := ent_w hw
  refine pc_at Tryz.func15 rfl (by kernel_rfl) 16 [.tmp 2, .tmp 3] rfl rfl ?_
  repeat' (conv => whnf); first
 | (refine nameB_cases (b := inB 1 e.Term 200) (fun h => ?_) (fun h => ?_))
 | (refine nameB_cases (b := okRec e.Rec) (fun h => ?_) (fun h => ?_))
 | refine nameB_true ?_
 | refine nameB_false ?_
 | refine splitB_true ?_
 | refine splitB_false ?_
 | refine Call0 (c_spec_l1In ..) rfl rfl ?_
 | refine Call0 (c_spec_l4Good e.Rec hok.2 hl.1 hl.2) rfl rfl ?_
 | refine Call0 (c_spec_l11Bytes e (by simp_all [okEnt]) hw) rfl rfl ?_
 | refine sdA (by first | exact nbT rfl | exact rfl | omega | fail) ?_
 | fail
  all_goals
    conv => whnf
    first
    | (have q : okEnt e = true := (by simp_all [okEnt]; done); rw [entR_yes q, q]; exact OutA_plain rfl rfl rfl)
    | (have q : okEnt e = false := (by simp_all [okEnt]; done); rw [entR_no q, q]; exact OutA_plain rfl rfl rfl)
theorem c_spec_texts (b : List UInt8) (a : Nat) (f : Bool) (ha : a <= b.length) (hb : b.length <= 1000000) : BC Tryz.prog 160 162 [.str b, .int .i64 (a : Int), .bool f] [] (.own 0) [⟨false, 9, 1, (textsFS b a f).1.map strC⟩] [.str b, .int .i64 ((textsFS b a f).2.1 : Int), .bool (textsFS b a f).2.2] := by
  have ok := numFS_ok (b := b) (f := f) ha
  have nn := ok.nn
  have le := ok.le
  refine bc_of Tryz.func160 rfl (by kernel_rfl) 3 29 [.tmp 2] rfl rfl rfl (by decide) rfl ?_
  repeat' (conv => whnf); first
 | refine side_and (side_of (one_lenC rfl rfl)) ?_
 | refine sdA (by first | (and_intros <;> first | exact nbT rfl | rfl | (intro e; exact absurd (AV.own.inj e) (by decide)) | (intro e; exact AV.noConfusion e)) | fail) ?_
 | refine side_and (side_of (app_boundC (L := out.map strC) rfl (by (try simp only [List.length_map, laT, List.length_take, List.length_set, List.length_drop]); omega) (nbT rfl))) ?_
 | refine nameB_true ?_
 | refine nameB_false ?_
 | (refine nameB_dec (fun h => ?_) (fun h => ?_) <;> try simp only [lensB] at h)
 | (refine nameB_cases (fun h => ?_) (fun h => ?_) <;> try simp only [nmL, lensB] at h)
 | refine splitB_true ?_
 | refine splitB_false ?_
 | ((refine Loop_nil 4 20480 9 1 rfl rfl (by decide) ?_; refine Loop_at [0] [] (Nat × List (List UInt8) × Nat × Bool) (fun j => match j with | (k, out, c, g) => manyG (fun a => textFS b a false) k out c g = textsFS b a f /\ k <= 1000000000 /\ c <= b.length /\ out.length <= c + 1 /\ (g = false -> out.length <= c)) (fun j => match j with | (k, out, c, g) => [(3, .int .i64 (k)), (4, .own 20480)]) (fun j => match j with | (k, out, c, g) => [(0, ⟨true, 162, 3, [[.str b, .int .i64 (c : Int), .bool g]]⟩), (20480, ⟨false, 9, 1, out.map strC⟩)]) (fun j => match j with | (k, out, c, g) => k) ((numFS b a f).1.toNat, [], (numFS b a f).2.1, (numFS b a f).2.2 || decide ((numFS b a f).1 > 40)) ⟨by first | first | rfl | exact congrArg (AV.int .i64) (by omega) | exact congrArg (AV.int .i64) ((i64_wrap (by omega) (by omega)).trans (by omega)) | rfl | fail, by first | rfl | first | rfl | exact congrArg (AV.int .i64) (by omega) | exact congrArg (AV.int .i64) ((i64_wrap (by omega) (by omega)).trans (by omega)) | fail, trivial⟩ ⟨by first | rfl | first | rfl | exact congrArg (fun e => some (AObj.mk _ _ _ e)) app_str | exact congrArg (fun z => some (AObj.mk _ _ _ [[AV.str b, AV.int .i64 _, AV.bool z]])) (or_dec ‹_›) | exact congrArg (fun z => some (AObj.mk _ _ _ [[AV.str b, AV.int .i64 _, AV.bool z]])) (or_dec_no ‹_›) | fail | fail, by first | rfl | first | rfl | exact congrArg (fun e => some (AObj.mk _ _ _ e)) app_str | exact congrArg (fun z => some (AObj.mk _ _ _ [[AV.str b, AV.int .i64 _, AV.bool z]])) (or_dec ‹_›) | exact congrArg (fun z => some (AObj.mk _ _ _ [[AV.str b, AV.int .i64 _, AV.bool z]])) (or_dec_no ‹_›) | fail | fail, trivial⟩ (by (try dsimp only); first | (exact ⟨rfl, by omega, ok.hi, Nat.zero_le _, fun _ => Nat.zero_le _⟩) | fail) ?_; (conv => whnf); refine side_and (side_of (by first | exact fun ⟨k, out, c, g⟩ => rfl | exact fun ⟨k, out, c, g⟩ => by simp [headOk, closedE, closedO, closedL, AV.closed, hcap.closed, hasId, AObj.box, BK.ofB])) ?_; rintro ⟨k, out, c, g⟩ hT; try dsimp only at hT))
 | (refine Again_of (k - 1, out ++ [(textFS b c g).1], (textFS b c g).2.1, (textFS b c g).2.2) ⟨by first | first | rfl | exact congrArg (AV.int .i64) (by omega) | exact congrArg (AV.int .i64) ((i64_wrap (by omega) (by omega)).trans (by omega)) | rfl | fail, by first | rfl | first | rfl | exact congrArg (AV.int .i64) (by omega) | exact congrArg (AV.int .i64) ((i64_wrap (by omega) (by omega)).trans (by omega)) | fail, trivial⟩ ⟨by first | rfl | first | rfl | exact congrArg (fun e => some (AObj.mk _ _ _ e)) app_str | exact congrArg (fun z => some (AObj.mk _ _ _ [[AV.str b, AV.int .i64 _, AV.bool z]])) (or_dec ‹_›) | exact congrArg (fun z => some (AObj.mk _ _ _ [[AV.str b, AV.int .i64 _, AV.bool z]])) (or_dec_no ‹_›) | fail | fail, by first | rfl | first | rfl | exact congrArg (fun e => some (AObj.mk _ _ _ e)) app_str | exact congrArg (fun z => some (AObj.mk _ _ _ [[AV.str b, AV.int .i64 _, AV.bool z]])) (or_dec ‹_›) | exact congrArg (fun z => some (AObj.mk _ _ _ [[AV.str b, AV.int .i64 _, AV.bool z]])) (or_dec_no ‹_›) | fail | fail, trivial⟩ (by first | (and_intros <;> first | rfl | trivial) | fail) (by first | (and_intros <;> first | rfl | trivial) | fail) rfl rfl rfl (by (try dsimp only); first | ((have hg : g = false := ‹_›; subst hg; have ho := textFS_ok (b := b) (f := false) hT.2.2.1; have hl := hT.2.2.2.2 rfl; have lo := ho.lo; exact ⟨manyG_go hT.1 (by omega), by omega, ho.hi, by rw [laT]; show out.length + 1 <= _; omega, fun e => by have := textFS_go hT.2.2.1 e; rw [laT]; show out.length + 1 <= _; omega⟩)) | fail) (show _ < _ by (try dsimp only); omega))
 | refine CallB (c_spec_num b a f ha (by omega)) rfl rfl rfl rfl rfl rfl ?_
 | refine CallB (c_spec_text b c g hT.2.2.1 (by omega)) rfl rfl rfl rfl rfl rfl ?_
 | fail
  all_goals
    conv => whnf
    first
    | (rw [<- manyG_end hT.1 (by first | (left; omega) | (right; assumption))]; exact OutB_ids rfl rfl rfl ⟨⟨_, _, _, rfl, rfl⟩, trivial⟩ rfl rfl rfl rfl (flat_one (flat_map (fun _ => rfl) _)) rfl)
def sealF (b : List UInt8) : List UInt8 × Bool := if 3 <= b.length /\ b.length <= 6000 /\ sealB (b.take (b.length - 3)) = b then (b.take (b.length - 3), true) else ([], false)
theorem sealF_no {b : List UInt8} (h : ¬ (3 <= b.length /\ b.length <= 6000 /\ sealB (b.take (b.length - 3)) = b)) : sealF b = ([], false) := by unfold sealF; rw [if_neg h]
theorem sealF_yes {b : List UInt8} (h : 3 <= b.length) (h2 : b.length <= 6000) (h3 : sealB (b.take (b.length - 3)) = b) : sealF b = (b.take (b.length - 3), true) := by unfold sealF; rw [if_pos ⟨h, h2, h3⟩]
theorem c_impl_OpenSeal (b : List UInt8) (hb : b.length <= 1073741824) : PC Tryz.prog false 153 [.str b] (.tup [.str (sealF b).1, .bool (sealF b).2]) [] := by
  by_cases h3 : 3 <= b.length /\ b.length <= 6000
  · have hw := i64_wrap (e := (b.length : Int) - 3) (by omega) (by omega)
    have ht : (IntKind.i64.wrap ((b.length : Int) - 3)).toNat = b.length - 3 := by rw [hw]; omega
    have hin : inB 3 (b.length : Int) 6000 = true := by simp only [inB, baT, decide_eq_true_eq]; omega
    have hc := c_impl_within (b.length : Int) 3 6000
    rw [hin] at hc
    have hs := c_impl_seal (b.take (b.length - 3)) (by rw [List.length_take]; omega)
    rw [<- ht] at hs
    refine pc_at Tryz.func153 rfl (by kernel_rfl) 23 [.tmp 2, .tmp 3] rfl rfl ?_
    repeat' (conv => whnf); first
 | refine nameB_true ?_
 | refine nameB_false ?_
 | (refine nameB_cases (fun h => ?_) (fun h => ?_) <;> try simp only [nmL, lensB] at h)
 | refine splitB_true ?_
 | refine splitB_false ?_
 | refine Call0 (hc) rfl rfl ?_
 | refine Call0 (hs) rfl rfl ?_
 | refine sdA (by first | exact nbT rfl | exact rfl | omega | fail) ?_
 | fail
    all_goals
      conv => whnf
      first
      | (rw [sealF_no (b := b) (fun e => absurd e.2.2 (by first | (rw [<- ht]; assumption) | assumption))]; exact OutA_plain rfl rfl rfl)
      | (rw [sealF_yes (b := b) h3.1 h3.2 (by first | (rw [<- ht]; assumption) | assumption)]; exact OutA_plain rfl rfl (by rw [ht]; rfl))
  · have hin : inB 3 (b.length : Int) 6000 = false := by
      simp only [inB, Bool.and_eq_false_iff, decide_eq_false_iff_not]; omega
    have hc := c_impl_within (b.length : Int) 3 6000
    rw [hin] at hc
    rw [sealF_no (b := b) (fun e => h3 ⟨e.1, e.2.1⟩)]
    refine pc_at Tryz.func153 rfl (by kernel_rfl) 23 [.tmp 2, .tmp 3] rfl rfl ?_
    repeat' (conv => whnf); first
 | refine nameB_true ?_
 | refine nameB_false ?_
 | refine splitB_true ?_
 | refine Call0 (hc) rfl rfl ?_
 | fail
    all_goals
      conv => whnf
      first
      | exact OutA_plain rfl rfl rfl
theorem c_spec_OpenSeal (b : List UInt8) (hb : b.length <= 1073741824) : PC Tryz.prog false 158 [.str b] (.tup [.str (sealF b).1, .bool (sealF b).2]) [] := by
  have hw := i64_wrap (e := (b.length : Int) - 3) (by omega) (by omega)
  by_cases h3 : 3 <= b.length /\ b.length <= 6000
  · have ht : (IntKind.i64.wrap ((b.length : Int) - 3)).toNat = b.length - 3 := by rw [hw]; omega
    have hs := c_spec_l1Seal (b.take (b.length - 3)) (by rw [List.length_take]; omega)
    rw [<- ht] at hs
    refine pc_at Tryz.func158 rfl (by kernel_rfl) 26 [.tmp 2, .tmp 3] rfl rfl ?_
    repeat' (conv => whnf); first
 | (refine nameB_dec (fun h => ?_) (fun h => ?_) <;> try simp only [lensB] at h)
 | (refine nameB_cases (fun h => ?_) (fun h => ?_) <;> try simp only [nmL, lensB] at h)
 | refine splitB_true ?_
 | refine splitB_false ?_
 | refine Call0 (hs) rfl rfl ?_
 | refine sdA (by first | exact nbT rfl | exact rfl | omega | fail) ?_
 | fail
    all_goals
      conv => whnf
      first
      | (exfalso; omega)
      | (rw [sealF_no (b := b) (fun e => absurd e.2.2 (by first | (rw [<- ht]; assumption) | assumption))]; exact OutA_plain rfl rfl rfl)
      | (rw [sealF_yes (b := b) h3.1 h3.2 (by first | (rw [<- ht]; assumption) | assumption)]; exact OutA_plain rfl rfl (by rw [ht]; rfl))
  · rw [sealF_no (b := b) (fun e => h3 ⟨e.1, e.2.1⟩)]
    refine pc_at Tryz.func158 rfl (by kernel_rfl) 26 [.tmp 2, .tmp 3] rfl rfl ?_
    repeat' (conv => whnf); first
 | (refine nameB_dec (fun h => ?_) (fun h => ?_) <;> try simp only [lensB] at h)
 | refine splitB_true ?_
 | refine splitB_false ?_
 | refine sdA (by first | exact nbT rfl | exact rfl | omega | fail) ?_
 | fail
    all_goals
      conv => whnf
      first
      | exact OutA_plain rfl rfl rfl
      | (exfalso; omega)
def rdWI (b : List UInt8) (a : Nat) (f : Bool) : WriteT × Nat × Bool :=
  (⟨(textFI b a f).1, (textFI b (takeF b (textFI b a f).2.1 (textFI b a f).2.2 1).2.1 (takeF b (textFI b a f).2.1 (textFI b a f).2.2 1).2.2).1, (takeF b (textFI b a f).2.1 (textFI b a f).2.2 1).1 == [1]⟩, (textFI b (takeF b (textFI b a f).2.1 (textFI b a f).2.2 1).2.1 (takeF b (textFI b a f).2.1 (textFI b a f).2.2 1).2.2).2)
def rdWS (b : List UInt8) (a : Nat) (f : Bool) : WriteT × Nat × Bool :=
  (⟨(textFS b a f).1, (textFS b (oneF b (textFS b a f).2.1 (textFS b a f).2.2).2.1 (oneF b (textFS b a f).2.1 (textFS b a f).2.2).2.2).1, (oneF b (textFS b a f).2.1 (textFS b a f).2.2).1 == 1⟩, (textFS b (oneF b (textFS b a f).2.1 (textFS b a f).2.2).2.1 (oneF b (textFS b a f).2.1 (textFS b a f).2.2).2.2).2)
theorem take_one_rel {b : List UInt8} {a : Nat} {f : Bool} (ha : a <= b.length) : (takeF b a f 1).2 = (oneF b a f).2 /\ ((oneF b a f).2.2 = false -> ((takeF b a f 1).1 == [1]) = ((oneF b a f).1 == 1)) := by
  cases f with
  | true => exact ⟨rfl, fun e => by cases e⟩
  | false =>
    cases hx : b[a]? with
    | none =>
      rw [takeF_one_no hx, oneF_no (.inr (by have := List.getElem?_eq_none_iff.1 hx; omega))]
      exact ⟨rfl, fun e => by cases e⟩
    | some x =>
      rw [takeF_one hx, oneF_yes hx]
      refine ⟨rfl, fun _ => ?_⟩
      rw [Bool.eq_iff_iff, beq_iff_eq, beq_iff_eq]
      constructor
      · intro h
        cases h
        rfl
      · intro h
        have : x = 1 := UInt8.toNat_inj.1 (by show x.toNat = 1; omega)
        rw [this]
theorem textFI_bad {b : List UInt8} {a : Nat} : textFI b a true = ([], a, true) := by
  unfold textFI numFI takeF
  exact if_neg (show ¬ (0 : Int) > 60 by decide)
theorem textFS_bad {b : List UInt8} {a : Nat} : textFS b a true = ([], a, true) := by
  unfold textFS numFS
  rw [if_pos (.inl rfl)]
theorem rdW_ok {b : List UInt8} {a : Nat} {f : Bool} (ha : a <= b.length) : OkA b a (rdWI b a f) := by
  have h1 := textFI_ok (b := b) (f := f) ha
  have h2 := takeF_ok (b := b) (f := (textFI b a f).2.2) (n := 1) h1.hi (by omega)
  have h3 := textFI_ok (b := b) (f := (takeF b (textFI b a f).2.1 (textFI b a f).2.2 1).2.2) h2.hi
  exact ⟨Nat.le_trans h1.lo (Nat.le_trans h2.lo h3.lo), h3.hi⟩
theorem rdWS_ok {b : List UInt8} {a : Nat} {f : Bool} (ha : a <= b.length) : OkA b a (rdWS b a f) := by
  have h1 := textFS_ok (b := b) (f := f) ha
  have h2 := oneF_ok (b := b) (f := (textFS b a f).2.2) h1.hi
  have h3 := textFS_ok (b := b) (f := (oneF b (textFS b a f).2.1 (textFS b a f).2.2).2.2) h2.hi
  exact ⟨Nat.le_trans h1.lo (Nat.le_trans h2.lo h3.lo), h3.hi⟩
theorem rdW_rel {b : List UInt8} {a : Nat} {f : Bool} (ha : a <= b.length) : RelG (rdWI b a f) (rdWS b a f) := by
  have h1 := textF_rel (b := b) (a := a) (f := f) ha
  have o1 := textFI_ok (b := b) (f := f) ha
  have p1 := textFS_ok (b := b) (f := f) ha
  cases hb : (textFS b a f).2.2 with
  | true =>
    have hi := h1.1.trans hb
    refine .bad ?_ ?_
    · show (textFI b (takeF b (textFI b a f).2.1 (textFI b a f).2.2 1).2.1 (takeF b (textFI b a f).2.1 (textFI b a f).2.2 1).2.2).2.2 = true
      rw [hi]
      show (textFI b (textFI b a f).2.1 true).2.2 = true
      rw [textFI_bad]
    · show (textFS b (oneF b (textFS b a f).2.1 (textFS b a f).2.2).2.1 (oneF b (textFS b a f).2.1 (textFS b a f).2.2).2.2).2.2 = true
      rw [hb]
      show (textFS b (textFS b a f).2.1 true).2.2 = true
      rw [textFS_bad]
  | false =>
    have e1 := h1.2 hb
    have h2 := take_one_rel (b := b) (a := (textFS b a f).2.1) (f := (textFS b a f).2.2) p1.hi
    have p2 := oneF_ok (b := b) (f := (textFS b a f).2.2) p1.hi
    have h3 := textF_rel (b := b) (a := (oneF b (textFS b a f).2.1 (textFS b a f).2.2).2.1) (f := (oneF b (textFS b a f).2.1 (textFS b a f).2.2).2.2) p2.hi
    unfold rdWI rdWS
    rw [e1, h2.1]
    refine ⟨h3.1, fun e => ?_⟩
    have e : (textFS b (oneF b (textFS b a f).2.1 (textFS b a f).2.2).2.1 (oneF b (textFS b a f).2.1 (textFS b a f).2.2).2.2).2.2 = false := e
    have e3 := h3.2 e
    have eo : (oneF b (textFS b a f).2.1 (textFS b a f).2.2).2.2 = false := by
      cases ho : (oneF b (textFS b a f).2.1 (textFS b a f).2.2).2.2 with
      | false => rfl
      | true => rw [ho, textFS_bad] at e; cases e
    rw [e3, h2.2 eo]
def rA1 (s : List UInt8) := numFI s 0 false
def rA2 (s : List UInt8) := numFI s (rA1 s).2.1 (rA1 s).2.2
def rA3 (s : List UInt8) := numFI s (rA2 s).2.1 (rA2 s).2.2
def rA4 (s : List UInt8) := numFI s (rA3 s).2.1 (rA3 s).2.2
def rA5 (s : List UInt8) := takeF s (rA4 s).2.1 (rA4 s).2.2 1
def rA6 (s : List UInt8) := textsFI s (rA5 s).2.1 (rA5 s).2.2
def rA7 (s : List UInt8) := numFI s (rA6 s).2.1 (rA6 s).2.2
def rA8 (s : List UInt8) := manyG (fun a => rdWI s a false) (rA7 s).1.toNat [] (rA7 s).2.1 (rA7 s).2.2
def recI (s : List UInt8) : RecT × Bool := (⟨(rA1 s).1, (rA2 s).1, (rA3 s).1, (rA4 s).1, (rA6 s).1, (rA8 s).1, (rA5 s).1 == [1]⟩, (rA8 s).2.2)
def rB1 (s : List UInt8) := numFS s 0 false
def rB2 (s : List UInt8) := numFS s (rB1 s).2.1 (rB1 s).2.2
def rB3 (s : List UInt8) := numFS s (rB2 s).2.1 (rB2 s).2.2
def rB4 (s : List UInt8) := numFS s (rB3 s).2.1 (rB3 s).2.2
def rB5 (s : List UInt8) := oneF s (rB4 s).2.1 (rB4 s).2.2
def rB6 (s : List UInt8) := textsFS s (rB5 s).2.1 (rB5 s).2.2
def rB7 (s : List UInt8) := numFS s (rB6 s).2.1 (rB6 s).2.2
def rB8 (s : List UInt8) := manyG (fun a => rdWS s a false) (rB7 s).1.toNat [] (rB7 s).2.1 (rB7 s).2.2
def recS (s : List UInt8) : RecT × Bool := (⟨(rB1 s).1, (rB2 s).1, (rB3 s).1, (rB4 s).1, (rB6 s).1, (rB8 s).1, (rB5 s).1 == 1⟩, (rB8 s).2.2)
section
variable {s : List UInt8}
theorem a1 : (rA1 s).2.1 <= s.length := (numFI_ok (Nat.zero_le _)).hi
theorem a2 : (rA2 s).2.1 <= s.length := (numFI_ok a1).hi
theorem a3 : (rA3 s).2.1 <= s.length := (numFI_ok a2).hi
theorem a4 : (rA4 s).2.1 <= s.length := (numFI_ok a3).hi
theorem a5 : (rA5 s).2.1 <= s.length := (takeF_ok a4 (by omega)).hi
theorem a6 : (rA6 s).2.1 <= s.length := (textsFI_ok a5).hi
theorem a7 : (rA7 s).2.1 <= s.length := (numFI_ok a6).hi
theorem b1' : (rB1 s).2.1 <= s.length := (numFS_ok (Nat.zero_le _)).hi
theorem b2' : (rB2 s).2.1 <= s.length := (numFS_ok b1').hi
theorem b3' : (rB3 s).2.1 <= s.length := (numFS_ok b2').hi
theorem b4' : (rB4 s).2.1 <= s.length := (numFS_ok b3').hi
theorem b5' : (rB5 s).2.1 <= s.length := (oneF_ok b4').hi
theorem b6' : (rB6 s).2.1 <= s.length := (textsFS_ok b5').hi
theorem b7' : (rB7 s).2.1 <= s.length := (numFS_ok b6').hi
theorem num_next {r t : Int × Nat × Bool} (h : RelG r t) (ht : t.2.1 <= s.length) : RelG (numFI s r.2.1 r.2.2) (numFS s t.2.1 t.2.2) := by
  cases hb : t.2.2 with
  | true => rw [h.1, hb]; exact .bad rfl rfl
  | false => rw [h.2 hb, hb]; exact numF_rel
theorem bad_num {r : Int × Nat × Bool} (h : (numFS s r.2.1 r.2.2).2.2 = false) : r.2.2 = false := by
  cases hb : r.2.2 with
  | false => rfl
  | true => rw [hb] at h; cases h
theorem rec_rel : (recI s).2 = (recS s).2 /\ ((recS s).2 = false -> recI s = recS s) := by
  have h1 : RelG (rA1 s) (rB1 s) := numF_rel
  have h2 : RelG (rA2 s) (rB2 s) := num_next h1 b1'
  have h3 : RelG (rA3 s) (rB3 s) := num_next h2 b2'
  have h4 : RelG (rA4 s) (rB4 s) := num_next h3 b3'
  have h5 : (rA5 s).2.2 = (rB5 s).2.2 /\ ((rB5 s).2.2 = false -> (rA5 s).2 = (rB5 s).2 /\ ((rA5 s).1 == [1]) = ((rB5 s).1 == 1)) := by
    unfold rA5 rB5
    cases hb : (rB4 s).2.2 with
    | true => rw [h4.1, hb]; exact ⟨rfl, fun e => by cases e⟩
    | false =>
      rw [h4.2 hb, hb]
      have := take_one_rel (b := s) (a := (rB4 s).2.1) (f := false) b4'
      exact ⟨congrArg Prod.snd this.1, fun e => ⟨this.1, this.2 e⟩⟩
  have h6 : RelG (rA6 s) (rB6 s) := by
    unfold rA6 rB6
    cases hb : (rB5 s).2.2 with
    | true =>
      rw [h5.1, hb]
      exact .bad (by unfold textsFI numFI; rw [show (true || decide ((0 : Int) > 40)) = true from rfl, manyG_bad]) (by unfold textsFS numFS; rw [show (true || decide ((0 : Int) > 40)) = true from rfl, manyG_bad])
    | false =>
      have e := (h5.2 hb).1
      rw [show (rA5 s).2.1 = (rB5 s).2.1 from congrArg Prod.fst e, h5.1, hb]
      exact textsF_rel b5'
  have h7 : RelG (rA7 s) (rB7 s) := by
    unfold rA7 rB7
    cases hb : (rB6 s).2.2 with
    | true => rw [h6.1, hb]; exact .bad rfl rfl
    | false => rw [h6.2 hb, hb]; exact numF_rel
  have h8 : RelG (rA8 s) (rB8 s) := by
    unfold rA8 rB8
    cases hb : (rB7 s).2.2 with
    | true => rw [h7.1, hb, manyG_bad, manyG_bad]; exact .bad rfl rfl
    | false =>
      rw [h7.2 hb, hb]
      exact manyG_rel (fun a ha => rdW_rel ha) (fun a ha => rdW_ok ha) _ _ _ _ _ _ fun _ => ⟨rfl, rfl, b7'⟩
  refine ⟨h8.1, fun e => ?_⟩
  have e8 : (rB8 s).2.2 = false := e
  have e7 : (rB7 s).2.2 = false := by
    cases hb : (rB7 s).2.2 with
    | false => rfl
    | true => unfold rB8 at e8; rw [hb, manyG_bad] at e8; cases e8
  have e6 : (rB6 s).2.2 = false := by
    cases hb : (rB6 s).2.2 with
    | false => rfl
    | true => unfold rB7 at e7; rw [hb] at e7; cases e7
  have e5 : (rB5 s).2.2 = false := by
    cases hb : (rB5 s).2.2 with
    | false => rfl
    | true => unfold rB6 textsFS numFS at e6; rw [hb, show (true || decide ((0 : Int) > 40)) = true from rfl, manyG_bad] at e6; cases e6
  have e4 : (rB4 s).2.2 = false := by
    cases hb : (rB4 s).2.2 with
    | false => rfl
    | true => unfold rB5 at e5; rw [hb] at e5; cases e5
  have e3 : (rB3 s).2.2 = false := bad_num e4
  have e2 : (rB2 s).2.2 = false := bad_num e3
  have e1 : (rB1 s).2.2 = false := bad_num e2
  unfold recI recS
  rw [h1.2 e1, h2.2 e2, h3.2 e3, h4.2 e4, h6.2 e6, h8.2 e8, (h5.2 e5).2]
end
def zeroR : RecT := ⟨0, 0, 0, 0, [], [], false⟩
def goodR (b : List UInt8) (r : RecT × Bool) : Bool := !r.2 && okRec r.1 && decide (recB r.1 = b)
def outR (b : List UInt8) : RecT × Bool := match (sealF b).2 && goodR b (recS (sealF b).1) with | true => ((recS (sealF b).1).1, true) | false => (zeroR, false)
theorem good_same {b s : List UInt8} : goodR b (recI s) = goodR b (recS s) /\ (goodR b (recS s) = true -> recI s = recS s) := by
  have h := rec_rel (s := s)
  unfold goodR
  cases hb : (recS s).2 with
  | true => rw [h.1, hb]; exact ⟨rfl, fun e => by cases e⟩
  | false => rw [h.2 hb, hb]; exact ⟨rfl, fun _ => rfl⟩
theorem outR_no {b : List UInt8} (h : ((sealF b).2 && goodR b (recS (sealF b).1)) = false) : outR b = (zeroR, false) := by unfold outR; rw [h]
theorem outR_yes {b : List UInt8} (h : ((sealF b).2 && goodR b (recS (sealF b).1)) = true) : outR b = ((recS (sealF b).1).1, true) := by unfold outR; rw [h]
theorem sealF_len {b : List UInt8} (h : (sealF b).2 = true) : (sealF b).1.length <= 5997 /\ b.length <= 6000 := by
  unfold sealF at h ⊢
  by_cases hc : 3 <= b.length /\ b.length <= 6000 /\ sealB (b.take (b.length - 3)) = b
  · rw [if_pos hc, List.length_take]; omega
  · rw [if_neg hc] at h; cases h
structure SmallR (r : RecT) : Prop where
  reads : r.Reads.length <= 100
  writes : r.Writes.length <= 6000
  rl : ∀ x ∈ r.Reads, x.length <= 60
  wl : ∀ x ∈ r.Writes, x.Key.length <= 60 /\ x.Val.length <= 60
theorem sum_le {α : Type} {w : α -> Nat} {n : Nat} : ∀ (l : List α), (∀ x ∈ l, w x <= n) -> (l.map w).sum <= n * l.length
  | [], _ => by simp
  | x :: l, h => by
    have h1 := h x (by simp)
    have h2 := sum_le l (fun y hy => h y (by simp [hy]))
    simp only [List.map_cons, List.sum_cons, List.length_cons, Nat.mul_add]
    omega
theorem SmallR.w {r : RecT} (h : SmallR r) : r.w <= 1048576 := by
  have e : r.w = wL List.length r.Reads + wL WriteT.w r.Writes := rfl
  have h1 : wL List.length r.Reads = r.Reads.length + (r.Reads.map List.length).sum := rfl
  have h2 : wL WriteT.w r.Writes = r.Writes.length + (r.Writes.map WriteT.w).sum := rfl
  have h3 := sum_le (w := List.length) (n := 60) r.Reads h.rl
  have h4 := sum_le (w := WriteT.w) (n := 120) r.Writes (fun x hx => by have := h.wl x hx; show x.Key.length + x.Val.length <= _; omega)
  have := h.reads
  have := h.writes
  omega
theorem SmallR.ok {r : RecT} (h : SmallR r) : r.ok :=
  ⟨trivial, trivial, trivial, trivial, ⟨by have := h.reads; omega, fun x hx => by have := h.rl x hx; show x.length <= _; omega⟩, ⟨by have := h.writes; omega, fun x hx => by have := h.wl x hx; exact ⟨by show x.Key.length <= _; omega, by show x.Val.length <= _; omega, trivial⟩⟩, trivial⟩
theorem manyG_len {α : Type} {b : List UInt8} {rd : Nat -> α × Nat × Bool} (ho : ∀ a, a <= b.length -> OkA b a (rd a)) (hg : ∀ a, a <= b.length -> (rd a).2.2 = false -> a < (rd a).2.1) : ∀ (k : Nat) (out : List α) (a : Nat) (f : Bool), a <= b.length -> (f = false -> out.length <= a) -> out.length <= a + 1 -> (manyG rd k out a f).1.length <= (manyG rd k out a f).2.1 + 1
  | 0, out, a, f, ha, h, h1 => h1
  | k + 1, out, a, true, ha, h, h1 => h1
  | k + 1, out, a, false, ha, h, h1 => by
    have o := ho a ha
    have hl := h rfl
    have lo := o.lo
    refine manyG_len ho hg k _ _ _ o.hi (fun e => ?_) ?_
    · have := hg a ha e
      rw [laT]; show out.length + 1 <= _; omega
    · rw [laT]; show out.length + 1 <= _; omega
theorem rdW_go {b : List UInt8} {a : Nat} (ha : a <= b.length) (h : (rdWI b a false).2.2 = false) : a < (rdWI b a false).2.1 := by
  have h1 := textFI_ok (b := b) (f := false) ha
  have h2 := takeF_ok (b := b) (f := (textFI b a false).2.2) (n := 1) h1.hi (by omega)
  have h3 := textFI_ok (b := b) (f := (takeF b (textFI b a false).2.1 (textFI b a false).2.2 1).2.2) h2.hi
  have hk : (textFI b a false).2.2 = false := by
    cases hb : (textFI b a false).2.2 with
    | false => rfl
    | true =>
      have h : (textFI b (takeF b (textFI b a false).2.1 (textFI b a false).2.2 1).2.1 (takeF b (textFI b a false).2.1 (textFI b a false).2.2 1).2.2).2.2 = false := h
      rw [hb] at h
      have : (textFI b (textFI b a false).2.1 true).2.2 = false := h
      rw [textFI_bad] at this
      cases this
  have := textFI_go ha hk
  exact Nat.lt_of_lt_of_le this (Nat.le_trans h2.lo h3.lo)
theorem rdW_small {b : List UInt8} {a : Nat} {f : Bool} (ha : a <= b.length) : (rdWI b a f).1.Key.length <= 60 /\ (rdWI b a f).1.Val.length <= 60 := by
  have h1 := textFI_ok (b := b) (f := f) ha
  have h2 := takeF_ok (b := b) (f := (textFI b a f).2.2) (n := 1) h1.hi (by omega)
  exact ⟨textFI_len ha, textFI_len h2.hi⟩
theorem textsFI_small {b : List UInt8} {a : Nat} {f : Bool} (ha : a <= b.length) : (∀ x ∈ (textsFI b a f).1, x.length <= 60) /\ (textsFI b a f).1.length <= 100 := by
  have ok := numFI_ok (b := b) (f := f) ha
  refine ⟨(manyG_all (b := b) (rd := fun a => textFI b a false) (p := fun x => x.length <= 60) (fun a ha => textFI_ok ha) (fun a ha => textFI_len ha) _ _ _ _ ok.hi (fun x hx => by cases hx)).1, ?_⟩
  by_cases h : (numFI b a f).1 > 40
  · unfold textsFI
    rw [decide_eq_true h, Bool.or_true, manyG_bad]
    exact Nat.zero_le _
  · have := (manyG_all (b := b) (rd := fun a => textFI b a false) (p := fun x => x.length <= 60) (fun a ha => textFI_ok ha) (fun a ha => textFI_len ha) (numFI b a f).1.toNat [] (numFI b a f).2.1 ((numFI b a f).2.2 || decide ((numFI b a f).1 > 40)) ok.hi (fun x hx => by cases hx)).2
    exact Nat.le_trans this (by show 0 + _ <= _; omega)
theorem recI_small {s : List UInt8} (hs : s.length <= 5997) : SmallR (recI s).1 := by
  have ht := textsFI_small (b := s) (a := (rA5 s).2.1) (f := (rA5 s).2.2) a5
  have hw := manyG_all (b := s) (rd := fun a => rdWI s a false) (p := fun x => x.Key.length <= 60 /\ x.Val.length <= 60) (fun a ha => rdW_ok ha) (fun a ha => rdW_small ha) (rA7 s).1.toNat [] (rA7 s).2.1 (rA7 s).2.2 a7 (fun x hx => by cases hx)
  have hl := manyG_len (b := s) (rd := fun a => rdWI s a false) (fun a ha => rdW_ok ha) (fun a ha e => rdW_go ha e) (rA7 s).1.toNat [] (rA7 s).2.1 (rA7 s).2.2 a7 (fun _ => Nat.zero_le _) (Nat.zero_le _)
  have hi := (manyG_ok (b := s) (rd := fun a => rdWI s a false) (fun a ha => rdW_ok ha) (rA7 s).1.toNat [] (rA7 s).2.1 (rA7 s).2.2 a7).hi
  exact ⟨ht.2, by show (manyG _ _ _ _ _).1.length <= _; omega, ht.1, hw.1⟩
theorem rA7_nat {s : List UInt8} : (rA7 s).1 = ((rA7 s).1.toNat : Int) := (Int.toNat_of_nonneg (numFI_ok (b := s) (f := (rA6 s).2.2) a6).nn).symm
theorem rec_take {r : RecT} (h : SmallR r) : r.Writes.length <= 1048576 /\ r.Reads.length <= 1048576 := ⟨by have := h.writes; omega, by have := h.reads; omega⟩
theorem app_w {out : List WriteT} {x : WriteT} {L : List (List AV)} (h : L = [x.cells]) : out.map WriteT.cells ++ L = (out ++ [x]).map WriteT.cells := by rw [h, List.map_append]; rfl
theorem c_impl_ReadRec (b : List UInt8) (hb : b.length <= 1073741824) : PC Tryz.prog false 137 [.str b] (.tup [.agg [.int .i64 (outR b).1.Kind, .int .i64 (outR b).1.Txn, .int .i64 (outR b).1.Time, .int .i64 (outR b).1.Lead, .own 0, .own 1, .bool (outR b).1.Yes], .bool (outR b).2]) [⟨false, 9, 1, (outR b).1.Reads.map strC⟩, ⟨false, 131, 3, (outR b).1.Writes.map WriteT.cells⟩] := by
  cases hs2 : (sealF b).2 with
  | false =>
    have e := outR_no (b := b) (by rw [hs2]; rfl)
    have hc := c_impl_OpenSeal b hb
    rw [hs2] at hc
    rw [e]
    refine pc_at Tryz.func137 rfl (by kernel_rfl) 77 [.cell 2 36, .tmp 3] rfl rfl ?_
    repeat' (conv => whnf); first
 | refine nameB_true ?_
 | refine nameB_false ?_
 | refine splitB_true ?_
 | refine Call0 (hc) rfl rfl ?_
 | refine sdA ⟨nbT rfl, rfl⟩ ?_
 | refine sdA (by first | (and_intros <;> first | rfl | omega | exact nbT rfl) | fail) ?_
 | fail
    all_goals
      conv => whnf
      exact OutA_nilB 0 1 9 1 4 rfl rfl rfl (by decide) (OutA_nilB 0 2 131 3 5 rfl rfl rfl (by decide) (OutA_ids rfl rfl rfl ⟨⟨_, _, _, rfl, rfl⟩, ⟨_, _, _, rfl, rfl⟩, trivial⟩ rfl (.inr (by intro o ho; simp only [List.mem_cons, List.not_mem_nil, or_false] at ho; rcases ho with rfl | rfl <;> rfl))))
  | true =>
    have hc := c_impl_OpenSeal b hb
    rw [hs2] at hc
    obtain ⟨hsl, hbl⟩ := sealF_len hs2
    have hg := good_same (b := b) (s := (sealF b).1)
    have hsm := recI_small hsl
    have hor : outR b = match goodR b (recI (sealF b).1) with | true => ((recI (sealF b).1).1, true) | false => (zeroR, false) := by
      unfold outR
      rw [hs2, Bool.true_and, hg.1]
      cases hq : goodR b (recS (sealF b).1) with
      | true => simp only; rw [hg.2 hq]
      | false => rfl
    rw [hor]
    generalize (sealF b).1 = s at *
    refine pc_at Tryz.func137 rfl (by kernel_rfl) 77 [.cell 2 36, .tmp 3] rfl rfl ?_
    repeat' (conv => whnf); first
 | (show Go.Ab.drawA _ _ _ _ _; refine draw_exp (.take 0 (.take 2 (.take 4 (.take 7 (.fork 1 (.fork 3 (.fork 5 (.fork 6 (.fork 8 (.fork 9 (.fork 10 (.fork 11 (.take 12 (.fork 13 (.done) (.stop))) (.stop)) (.stop)) (.stop)) (.stop)) (.fork 8 (.fork 6 (.fork 9 (.fork 10 (.fork 11 (.take 12 (.fork 13 (.done) (.stop))) (.stop)) (.stop)) (.stop)) (.stop)) (.stop))) (.stop)) (.stop)) (.fork 3 (.fork 1 (.fork 5 (.fork 6 (.fork 8 (.fork 9 (.fork 10 (.fork 11 (.take 12 (.fork 13 (.done) (.stop))) (.stop)) (.stop)) (.stop)) (.stop)) (.fork 8 (.fork 6 (.fork 9 (.fork 10 (.fork 11 (.take 12 (.fork 13 (.done) (.stop))) (.stop)) (.stop)) (.stop)) (.stop)) (.stop))) (.stop)) (.fork 5 (.fork 1 (.fork 6 (.fork 8 (.fork 9 (.fork 10 (.fork 11 (.take 12 (.fork 13 (.done) (.stop))) (.stop)) (.stop)) (.stop)) (.stop)) (.fork 8 (.fork 6 (.fork 9 (.fork 10 (.fork 11 (.take 12 (.fork 13 (.done) (.stop))) (.stop)) (.stop)) (.stop)) (.stop)) (.stop))) (.fork 6 (.fork 1 (.fork 8 (.fork 9 (.fork 10 (.fork 11 (.take 12 (.fork 13 (.done) (.stop))) (.stop)) (.stop)) (.stop)) (.stop)) (.fork 8 (.fork 1 (.fork 9 (.fork 10 (.fork 11 (.take 12 (.fork 13 (.done) (.stop))) (.stop)) (.stop)) (.stop)) (.fork 9 (.fork 1 (.fork 10 (.fork 11 (.take 12 (.fork 13 (.done) (.stop))) (.stop)) (.stop)) (.fork 10 (.fork 1 (.fork 11 (.take 12 (.fork 13 (.done) (.stop))) (.stop)) (.stop)) (.stop))) (.stop))) (.stop))) (.fork 8 (.fork 1 (.fork 6 (.fork 9 (.fork 10 (.fork 11 (.take 12 (.fork 13 (.done) (.stop))) (.stop)) (.stop)) (.stop)) (.stop)) (.fork 6 (.fork 1 (.fork 9 (.fork 10 (.fork 11 (.take 12 (.fork 13 (.done) (.stop))) (.stop)) (.stop)) (.stop)) (.fork 9 (.fork 1 (.fork 10 (.fork 11 (.take 12 (.fork 13 (.done) (.stop))) (.stop)) (.stop)) (.fork 10 (.fork 1 (.fork 11 (.take 12 (.fork 13 (.done) (.stop))) (.stop)) (.stop)) (.stop))) (.stop))) (.stop))) (.stop)))) (.stop))) (.stop))))))) (by kernel_rfl) (by kernel_rfl) (by kernel_rfl) ?_)
 | refine nameB_self (b := (rA5 s).1 == [1]) ?_
 | refine nameB_self (b := (takeF s (textFI s c g).2.1 (textFI s c g).2.2 1).1 == [1]) ?_
 | refine side_and (side_of (one_lenC rfl rfl)) ?_
 | refine sdA (by first | (and_intros <;> first | exact nbT rfl | rfl | (intro e; exact absurd (AV.own.inj e) (by decide)) | (intro e; exact AV.noConfusion e)) | fail) ?_
 | refine side_and (side_of (app_boundC (L := out.map WriteT.cells) rfl (by (try simp only [List.length_map, laT, List.length_take, List.length_set, List.length_drop]); omega) (nbT rfl))) ?_
 | refine nameB_true ?_
 | refine nameB_false ?_
 | refine nameB_yes ‹_› ?_
 | (refine nameB_dec (fun h => ?_) (fun h => ?_) <;> try simp only [lensB] at h)
 | (refine nameB_cases (fun h => ?_) (fun h => ?_) <;> try simp only [nmL, lensB] at h)
 | refine splitB_true ?_
 | refine splitB_false ?_
 | refine both_intro ?_ ?_
 | exact True.intro
 | ((refine Loop_nilB 20704 1 131 3 5 rfl rfl rfl (by decide) ?_; refine Loop_at [0, 2, 6, 7] [0, 20672] (Nat × List WriteT × Nat × Bool) (fun j => match j with | (k, out, c, g) => manyG (fun a => rdWI s a false) k out c g = rA8 s /\ k <= 1000000000 /\ c <= s.length /\ out.length <= c + 1 /\ (g = false -> out.length <= c)) (fun j => match j with | (k, out, c, g) => [(8, .int .i64 (k))]) (fun j => match j with | (k, out, c, g) => [(16416, ⟨true, 145, 3, [[.str s, .int .i64 (c : Int), .bool g]]⟩), (20704, ⟨true, 36, 7, [[.int .i64 (rA1 s).1, .int .i64 (rA2 s).1, .int .i64 (rA3 s).1, .int .i64 (rA4 s).1, .own 20672, .own 1, .bool ((rA5 s).1 == [1])]]⟩), (1, ⟨false, 131, 3, out.map WriteT.cells⟩)]) (fun j => match j with | (k, out, c, g) => k) ((rA7 s).1.toNat, [], (rA7 s).2.1, (rA7 s).2.2) ⟨by first | first | rfl | exact congrArg (AV.int .i64) rA7_nat | exact congrArg (AV.int .i64) ((i64_wrap (by omega) (by omega)).trans (by omega)) | rfl | fail, trivial⟩ ⟨by first | rfl | first | rfl | exact congrArg (fun e => some (AObj.mk _ _ _ e)) (app_w rfl) | fail | fail, by first | rfl | first | rfl | exact congrArg (fun e => some (AObj.mk _ _ _ e)) (app_w rfl) | fail | fail, by first | rfl | first | rfl | exact congrArg (fun e => some (AObj.mk _ _ _ e)) (app_w rfl) | fail | fail, trivial⟩ (by (try dsimp only); first | (exact ⟨rfl, by have := (numFI_ok (b := s) (f := (rA6 s).2.2) a6).le; show (numFI _ _ _).1.toNat <= _; omega, a7, Nat.zero_le _, fun _ => Nat.zero_le _⟩) | fail) ?_; (conv => whnf); refine side_and (side_of (by first | exact fun ⟨k, out, c, g⟩ => rfl | exact fun ⟨k, out, c, g⟩ => by simp [headOk, closedE, closedO, closedL, AV.closed, hcap.closed, hasId, AObj.box, BK.ofB])) ?_; rintro ⟨k, out, c, g⟩ hT; try dsimp only at hT))
 | (refine Again_of (k - 1, out ++ [(rdWI s c g).1], (rdWI s c g).2.1, (rdWI s c g).2.2) ⟨by first | first | rfl | exact congrArg (AV.int .i64) rA7_nat | exact congrArg (AV.int .i64) ((i64_wrap (by omega) (by omega)).trans (by omega)) | rfl | fail, trivial⟩ ⟨by first | rfl | first | rfl | exact congrArg (fun e => some (AObj.mk _ _ _ e)) (app_w rfl) | fail | fail, by first | rfl | first | rfl | exact congrArg (fun e => some (AObj.mk _ _ _ e)) (app_w rfl) | fail | fail, by first | rfl | first | rfl | exact congrArg (fun e => some (AObj.mk _ _ _ e)) (app_w rfl) | fail | fail, trivial⟩ (by first | (and_intros <;> first | rfl | trivial) | fail) (by first | (and_intros <;> first | rfl | trivial) | fail) rfl rfl rfl (by (try dsimp only); first | ((have hg' : g = false := ‹_›; subst hg'; have ho := rdW_ok (b := s) (f := false) hT.2.2.1; have hl := hT.2.2.2.2 rfl; have lo := ho.lo; exact ⟨manyG_go hT.1 (by omega), by omega, ho.hi, by rw [laT]; show out.length + 1 <= _; omega, fun e => by have := rdW_go hT.2.2.1 e; rw [laT]; show out.length + 1 <= _; omega⟩)) | fail) (show _ < _ by (try dsimp only); omega))
 | refine Call0 (hc) rfl rfl ?_
 | refine CallB (c_impl_num s 0 false (Nat.zero_le _) (by omega)) rfl rfl rfl rfl rfl rfl ?_
 | refine CallB (c_impl_num s (rA1 s).2.1 (rA1 s).2.2 a1 (by omega)) rfl rfl rfl rfl rfl rfl ?_
 | refine CallB (c_impl_num s (rA2 s).2.1 (rA2 s).2.2 a2 (by omega)) rfl rfl rfl rfl rfl rfl ?_
 | refine CallB (c_impl_num s (rA3 s).2.1 (rA3 s).2.2 a3 (by omega)) rfl rfl rfl rfl rfl rfl ?_
 | refine CallB (c_impl_take s (rA4 s).2.1 (rA4 s).2.2 1 a4 (by omega) (by omega) (by omega)) rfl rfl rfl rfl rfl rfl ?_
 | refine CallB (c_impl_texts s (rA5 s).2.1 (rA5 s).2.2 a5 (by omega)) rfl rfl rfl rfl rfl rfl ?_
 | refine CallB (c_impl_num s (rA6 s).2.1 (rA6 s).2.2 a6 (by omega)) rfl rfl rfl rfl rfl rfl ?_
 | refine CallB (c_impl_text s c g hT.2.2.1 (by omega)) rfl rfl rfl rfl rfl rfl ?_
 | refine CallB (c_impl_take s (textFI s c g).2.1 (textFI s c g).2.2 1 (textFI_ok hT.2.2.1).hi (by omega) (by omega) (by omega)) rfl rfl rfl rfl rfl rfl ?_
 | refine CallB (c_impl_text s (takeF s (textFI s c g).2.1 (textFI s c g).2.2 1).2.1 (takeF s (textFI s c g).2.1 (textFI s c g).2.2 1).2.2 (takeF_ok (textFI_ok hT.2.2.1).hi (by omega)).hi (by omega)) rfl rfl rfl rfl rfl rfl ?_
 | (have e8 := manyG_end hT.1 (by first | (left; omega) | (right; assumption)); have eR : recI s = ((⟨(rA1 s).1, (rA2 s).1, (rA3 s).1, (rA4 s).1, (rA6 s).1, out, (rA5 s).1 == [1]⟩ : RecT), g) := (by unfold recI; rw [<- e8]); have hsm2 : SmallR (⟨(rA1 s).1, (rA2 s).1, (rA3 s).1, (rA4 s).1, (rA6 s).1, out, (rA5 s).1 == [1]⟩ : RecT) := (by have h9 := hsm; rw [eR] at h9; exact h9); refine Call0 (c_impl_GoodRec (⟨(rA1 s).1, (rA2 s).1, (rA3 s).1, (rA4 s).1, (rA6 s).1, out, (rA5 s).1 == [1]⟩ : RecT) hsm2.ok (rec_take hsm2).1 (rec_take hsm2).2) rfl rfl ?_)
 | (have e8 := manyG_end hT.1 (by first | (left; omega) | (right; assumption)); have eR : recI s = ((⟨(rA1 s).1, (rA2 s).1, (rA3 s).1, (rA4 s).1, (rA6 s).1, out, (rA5 s).1 == [1]⟩ : RecT), g) := (by unfold recI; rw [<- e8]); have hsm2 : SmallR (⟨(rA1 s).1, (rA2 s).1, (rA3 s).1, (rA4 s).1, (rA6 s).1, out, (rA5 s).1 == [1]⟩ : RecT) := (by have h9 := hsm; rw [eR] at h9; exact h9); refine Call0 (c_impl_recBytes (⟨(rA1 s).1, (rA2 s).1, (rA3 s).1, (rA4 s).1, (rA6 s).1, out, (rA5 s).1 == [1]⟩ : RecT) ‹_› hsm2.w) rfl rfl ?_)
 | fail
    all_goals
      conv => whnf
      have e8 := manyG_end hT.1 (by first | (left; omega) | (right; assumption)); have eR : recI s = ((⟨(rA1 s).1, (rA2 s).1, (rA3 s).1, (rA4 s).1, (rA6 s).1, out, (rA5 s).1 == [1]⟩ : RecT), g) := (by unfold recI; rw [<- e8])
      first
      | (have eG : goodR b (recI s) = false := (by rw [eR]; unfold goodR; first | (simp [*]; done) | (simp_all; done))
         rw [eG]
         exact OutA_nilB 0 2 9 1 4 rfl rfl rfl (by decide) (OutA_nilB 0 3 131 3 5 rfl rfl rfl (by decide) (OutA_ids rfl rfl rfl ⟨⟨_, _, _, rfl, rfl⟩, ⟨_, _, _, rfl, rfl⟩, trivial⟩ rfl (.inr (by intro o ho; simp only [List.mem_cons, List.not_mem_nil, or_false] at ho; rcases ho with rfl | rfl <;> rfl)))))
      | (have eG : goodR b (recI s) = true := (by rw [eR]; unfold goodR; first | (simp [*]; done) | (simp_all; done))
         rw [eG, eR]
         exact OutA_ids rfl rfl rfl ⟨⟨_, _, _, rfl, rfl⟩, ⟨_, _, _, rfl, rfl⟩, trivial⟩ rfl (.inr (by intro o ho; simp only [List.mem_cons, List.not_mem_nil, or_false] at ho; rcases ho with rfl | rfl <;> exact flat_map (fun _ => rfl) _)))
theorem rdWS_go {b : List UInt8} {a : Nat} (ha : a <= b.length) (h : (rdWS b a false).2.2 = false) : a < (rdWS b a false).2.1 := by
  have r := rdW_rel (b := b) (a := a) (f := false) ha
  rw [<- r.2 h]
  exact rdW_go ha (r.1.trans h)
theorem rB7_nat {s : List UInt8} : (rB7 s).1 = ((rB7 s).1.toNat : Int) := (Int.toNat_of_nonneg (numFS_ok (b := s) (f := (rB6 s).2.2) b6').nn).symm
theorem recS_small {s : List UInt8} (hs : s.length <= 5997) (h : (recS s).2 = false) : SmallR (recS s).1 := by
  rw [<- (rec_rel (s := s)).2 h]
  exact recI_small hs
theorem c_spec_ReadRec (b : List UInt8) (hb : b.length <= 1073741824) : PC Tryz.prog false 141 [.str b] (.tup [.agg [.int .i64 (outR b).1.Kind, .int .i64 (outR b).1.Txn, .int .i64 (outR b).1.Time, .int .i64 (outR b).1.Lead, .own 0, .own 1, .bool (outR b).1.Yes], .bool (outR b).2]) [⟨false, 9, 1, (outR b).1.Reads.map strC⟩, ⟨false, 131, 3, (outR b).1.Writes.map WriteT.cells⟩] := by
  cases hs2 : (sealF b).2 with
  | false =>
    have e := outR_no (b := b) (by rw [hs2]; rfl)
    have hc := c_spec_OpenSeal b hb
    rw [hs2] at hc
    rw [e]
    refine pc_at Tryz.func141 rfl (by kernel_rfl) 83 [.cell 2 36, .tmp 3] rfl rfl ?_
    repeat' (conv => whnf); first
 | refine nameB_true ?_
 | refine nameB_false ?_
 | refine splitB_true ?_
 | refine Call0 (hc) rfl rfl ?_
 | refine sdA ⟨nbT rfl, rfl⟩ ?_
 | refine sdA (by first | (and_intros <;> first | rfl | omega | exact nbT rfl) | fail) ?_
 | fail
    all_goals
      conv => whnf
      exact OutA_nilB 0 1 9 1 4 rfl rfl rfl (by decide) (OutA_nilB 0 2 131 3 5 rfl rfl rfl (by decide) (OutA_ids rfl rfl rfl ⟨⟨_, _, _, rfl, rfl⟩, ⟨_, _, _, rfl, rfl⟩, trivial⟩ rfl (.inr (by intro o ho; simp only [List.mem_cons, List.not_mem_nil, or_false] at ho; rcases ho with rfl | rfl <;> rfl))))
  | true =>
    have hc := c_spec_OpenSeal b hb
    rw [hs2] at hc
    obtain ⟨hsl, hbl⟩ := sealF_len hs2
    have hsm := fun h => recS_small hsl h
    have hor : outR b = match goodR b (recS (sealF b).1) with | true => ((recS (sealF b).1).1, true) | false => (zeroR, false) := by
      unfold outR
      rw [hs2, Bool.true_and]
      try (cases goodR b (recS (sealF b).1) <;> rfl)
    rw [hor]
    generalize (sealF b).1 = s at *
    refine pc_at Tryz.func141 rfl (by kernel_rfl) 83 [.cell 2 36, .tmp 3] rfl rfl ?_
    repeat' (conv => whnf); first
 | refine nameB_self (b := (rB5 s).1 == 1) ?_
 | refine nameB_self (b := (oneF s (textFS s c g).2.1 (textFS s c g).2.2).1 == 1) ?_
 | refine side_and (side_of (one_lenC rfl rfl)) ?_
 | refine sdA (by first | (and_intros <;> first | exact nbT rfl | rfl | (intro e; exact absurd (AV.own.inj e) (by decide)) | (intro e; exact AV.noConfusion e)) | fail) ?_
 | refine side_and (side_of (app_boundC (L := out.map WriteT.cells) rfl (by (try simp only [List.length_map, laT, List.length_take, List.length_set, List.length_drop]); omega) (nbT rfl))) ?_
 | refine nameB_true ?_
 | refine nameB_false ?_
 | refine nameB_yes ‹_› ?_
 | (refine nameB_dec (fun h => ?_) (fun h => ?_) <;> try simp only [lensB] at h)
 | (refine nameB_cases (fun h => ?_) (fun h => ?_) <;> try simp only [nmL, lensB] at h)
 | refine splitB_true ?_
 | refine splitB_false ?_
 | ((refine Loop_nilB 20624 1 131 3 5 rfl rfl rfl (by decide) ?_; refine Loop_at [0, 2, 6, 7] [0, 28688] (Nat × List WriteT × Nat × Bool) (fun j => match j with | (k, out, c, g) => manyG (fun a => rdWS s a false) k out c g = rB8 s /\ k <= 1000000000 /\ c <= s.length /\ out.length <= c + 1 /\ (g = false -> out.length <= c)) (fun j => match j with | (k, out, c, g) => [(8, .int .i64 (k))]) (fun j => match j with | (k, out, c, g) => [(16416, ⟨true, 162, 3, [[.str s, .int .i64 (c : Int), .bool g]]⟩), (20624, ⟨true, 36, 7, [[.int .i64 (rB1 s).1, .int .i64 (rB2 s).1, .int .i64 (rB3 s).1, .int .i64 (rB4 s).1, .own 28688, .own 1, .bool ((rB5 s).1 == 1)]]⟩), (1, ⟨false, 131, 3, out.map WriteT.cells⟩)]) (fun j => match j with | (k, out, c, g) => k) ((rB7 s).1.toNat, [], (rB7 s).2.1, (rB7 s).2.2) ⟨by first | first | rfl | exact congrArg (AV.int .i64) rB7_nat | exact congrArg (AV.int .i64) ((i64_wrap (by omega) (by omega)).trans (by omega)) | rfl | fail, trivial⟩ ⟨by first | rfl | first | rfl | exact congrArg (fun e => some (AObj.mk _ _ _ e)) (app_w rfl) | fail | fail, by first | rfl | first | rfl | exact congrArg (fun e => some (AObj.mk _ _ _ e)) (app_w rfl) | fail | fail, by first | rfl | first | rfl | exact congrArg (fun e => some (AObj.mk _ _ _ e)) (app_w rfl) | fail | fail, trivial⟩ (by (try dsimp only); first | (exact ⟨rfl, by have := (numFS_ok (b := s) (f := (rB6 s).2.2) b6').le; show (numFS _ _ _).1.toNat <= _; omega, b7', Nat.zero_le _, fun _ => Nat.zero_le _⟩) | fail) ?_; (conv => whnf); refine side_and (side_of (by first | exact fun ⟨k, out, c, g⟩ => rfl | exact fun ⟨k, out, c, g⟩ => by simp [headOk, closedE, closedO, closedL, AV.closed, hcap.closed, hasId, AObj.box, BK.ofB])) ?_; rintro ⟨k, out, c, g⟩ hT; try dsimp only at hT))
 | (refine Again_of (k - 1, out ++ [(rdWS s c g).1], (rdWS s c g).2.1, (rdWS s c g).2.2) ⟨by first | first | rfl | exact congrArg (AV.int .i64) rB7_nat | exact congrArg (AV.int .i64) ((i64_wrap (by omega) (by omega)).trans (by omega)) | rfl | fail, trivial⟩ ⟨by first | rfl | first | rfl | exact congrArg (fun e => some (AObj.mk _ _ _ e)) (app_w rfl) | fail | fail, by first | rfl | first | rfl | exact congrArg (fun e => some (AObj.mk _ _ _ e)) (app_w rfl) | fail | fail, by first | rfl | first | rfl | exact congrArg (fun e => some (AObj.mk _ _ _ e)) (app_w rfl) | fail | fail, trivial⟩ (by first | (and_intros <;> first | rfl | trivial) | fail) (by first | (and_intros <;> first | rfl | trivial) | fail) rfl rfl rfl (by (try dsimp only); first | ((have hg' : g = false := ‹_›; subst hg'; have ho := rdWS_ok (b := s) (f := false) hT.2.2.1; have hl := hT.2.2.2.2 rfl; have lo := ho.lo; exact ⟨manyG_go hT.1 (by omega), by omega, ho.hi, by rw [laT]; show out.length + 1 <= _; omega, fun e => by have := rdWS_go hT.2.2.1 e; rw [laT]; show out.length + 1 <= _; omega⟩)) | fail) (show _ < _ by (try dsimp only); omega))
 | refine Call0 (hc) rfl rfl ?_
 | refine CallB (c_spec_num s 0 false (Nat.zero_le _) (by omega)) rfl rfl rfl rfl rfl rfl ?_
 | refine CallB (c_spec_num s (rB1 s).2.1 (rB1 s).2.2 b1' (by omega)) rfl rfl rfl rfl rfl rfl ?_
 | refine CallB (c_spec_num s (rB2 s).2.1 (rB2 s).2.2 b2' (by omega)) rfl rfl rfl rfl rfl rfl ?_
 | refine CallB (c_spec_num s (rB3 s).2.1 (rB3 s).2.2 b3' (by omega)) rfl rfl rfl rfl rfl rfl ?_
 | refine CallB (c_spec_one s (rB4 s).2.1 (rB4 s).2.2 b4' (by omega)) rfl rfl rfl rfl rfl rfl ?_
 | refine CallB (c_spec_texts s (rB5 s).2.1 (rB5 s).2.2 b5' (by omega)) rfl rfl rfl rfl rfl rfl ?_
 | refine CallB (c_spec_num s (rB6 s).2.1 (rB6 s).2.2 b6' (by omega)) rfl rfl rfl rfl rfl rfl ?_
 | refine CallB (c_spec_text s c g hT.2.2.1 (by omega)) rfl rfl rfl rfl rfl rfl ?_
 | refine CallB (c_spec_one s (textFS s c g).2.1 (textFS s c g).2.2 (textFS_ok hT.2.2.1).hi (by omega)) rfl rfl rfl rfl rfl rfl ?_
 | refine CallB (c_spec_text s (oneF s (textFS s c g).2.1 (textFS s c g).2.2).2.1 (oneF s (textFS s c g).2.1 (textFS s c g).2.2).2.2 (oneF_ok (textFS_ok hT.2.2.1).hi).hi (by omega)) rfl rfl rfl rfl rfl rfl ?_
 | (have e8 := manyG_end hT.1 (by first | (left; omega) | (right; assumption)); have eR : recS s = ((⟨(rB1 s).1, (rB2 s).1, (rB3 s).1, (rB4 s).1, (rB6 s).1, out, (rB5 s).1 == 1⟩ : RecT), g) := (by unfold recS; rw [<- e8]); have hsm2 : SmallR (⟨(rB1 s).1, (rB2 s).1, (rB3 s).1, (rB4 s).1, (rB6 s).1, out, (rB5 s).1 == 1⟩ : RecT) := (by have h9 := hsm (by rw [eR]; assumption); rw [eR] at h9; exact h9); refine Call0 (c_spec_l4Good (⟨(rB1 s).1, (rB2 s).1, (rB3 s).1, (rB4 s).1, (rB6 s).1, out, (rB5 s).1 == 1⟩ : RecT) hsm2.ok (rec_take hsm2).1 (rec_take hsm2).2) rfl rfl ?_)
 | (have e8 := manyG_end hT.1 (by first | (left; omega) | (right; assumption)); have eR : recS s = ((⟨(rB1 s).1, (rB2 s).1, (rB3 s).1, (rB4 s).1, (rB6 s).1, out, (rB5 s).1 == 1⟩ : RecT), g) := (by unfold recS; rw [<- e8]); have hsm2 : SmallR (⟨(rB1 s).1, (rB2 s).1, (rB3 s).1, (rB4 s).1, (rB6 s).1, out, (rB5 s).1 == 1⟩ : RecT) := (by have h9 := hsm (by rw [eR]; assumption); rw [eR] at h9; exact h9); refine Call0 (c_spec_l4Bytes (⟨(rB1 s).1, (rB2 s).1, (rB3 s).1, (rB4 s).1, (rB6 s).1, out, (rB5 s).1 == 1⟩ : RecT) ‹_› hsm2.w) rfl rfl ?_)
 | fail
    all_goals
      conv => whnf
      have e8 := manyG_end hT.1 (by first | (left; omega) | (right; assumption)); have eR : recS s = ((⟨(rB1 s).1, (rB2 s).1, (rB3 s).1, (rB4 s).1, (rB6 s).1, out, (rB5 s).1 == 1⟩ : RecT), g) := (by unfold recS; rw [<- e8])
      first
      | (have eG : goodR b (recS s) = false := (by rw [eR]; unfold goodR; first | (simp [*]; done) | (simp_all; done))
         rw [eG]
         exact OutA_nilB 0 2 9 1 4 rfl rfl rfl (by decide) (OutA_nilB 0 3 131 3 5 rfl rfl rfl (by decide) (OutA_ids rfl rfl rfl ⟨⟨_, _, _, rfl, rfl⟩, ⟨_, _, _, rfl, rfl⟩, trivial⟩ rfl (.inr (by intro o ho; simp only [List.mem_cons, List.not_mem_nil, or_false] at ho; rcases ho with rfl | rfl <;> rfl)))))
      | (have eG : goodR b (recS s) = true := (by rw [eR]; unfold goodR; first | (simp [*]; done) | (simp_all; done))
         rw [eG, eR]
         exact OutA_ids rfl rfl rfl ⟨⟨_, _, _, rfl, rfl⟩, ⟨_, _, _, rfl, rfl⟩, trivial⟩ rfl (.inr (by intro o ho; simp only [List.mem_cons, List.not_mem_nil, or_false] at ho; rcases ho with rfl | rfl <;> exact flat_map (fun _ => rfl) _)))
theorem numB_len5 : ∀ (m j : Nat) (n : Int), j + m = 4 -> 0 <= n -> n <= bnd9 j -> (numB n).length <= m + 1
  | m, j, n, hj, h0, h => by
    by_cases hn : n ≥ 128
    · have hb := bnd9_next h hn
      have ht := tdiv_128 hn
      cases m with
      | zero => omega
      | succ m =>
        rw [numB_ge hn, List.length_cons]
        have := numB_len5 m (j + 1) (n.tdiv 128) (by omega) ht.1 hb.1
        omega
    · rw [numB_lt hn]; show 1 <= _; omega
theorem numB_five {n : Int} (h0 : 0 <= n) (h : n <= 1000000000) : (numB n).length <= 5 := numB_len5 4 0 n rfl h0 h
theorem flat_len {α : Type} {f : α -> List UInt8} {n : Nat} : ∀ (l : List α), (∀ x ∈ l, (f x).length <= n) -> (l.map f).flatten.length <= n * l.length
  | [], _ => by simp
  | x :: l, h => by
    have h1 := h x (by simp)
    have h2 := flat_len l (fun y hy => h y (by simp [hy]))
    simp only [List.map_cons, List.flatten_cons, laT, List.length_cons, Nat.mul_add]
    omega
theorem textB_small {s : List UInt8} (h : s.length <= 60) : (textB s).length <= 65 := by
  have := numB_five (n := (s.length : Nat)) (by omega) (by omega)
  unfold textB
  rw [laT]
  omega
theorem recB_small {r : RecT} (h : SmallR r) (hg : okRec r = true) : (recB r).length <= 5900 := by
  obtain ⟨⟨k0, k1⟩, ⟨t0, t1⟩, ⟨m0, m1⟩, ⟨l0, l1⟩⟩ := rec_nums hg
  have hn : r.Writes.length <= 8 /\ r.Reads.length <= 8 := by
    unfold okRec at hg
    split at hg
    · simp only [baT, decide_eq_true_eq] at hg
      omega
    · simp only [baT, decide_eq_true_eq] at hg
      omega
  have a1 := numB_five (n := r.Kind) (by omega) (by omega)
  have a2 := numB_five (n := r.Txn) (by omega) (by omega)
  have a3 := numB_five (n := r.Time) (by omega) (by omega)
  have a4 := numB_five (n := r.Lead) (by omega) (by omega)
  have a5 := flagB_len r.Yes
  have a6 := numB_five (n := (r.Reads.length : Nat)) (by omega) (by omega)
  have a7 := numB_five (n := (r.Writes.length : Nat)) (by omega) (by omega)
  have a8 : (textsG r.Reads).length <= 65 * r.Reads.length := flat_len (f := textB) r.Reads (fun x hx => textB_small (h.rl x hx))
  have a9 : (wG r.Writes).length <= 131 * r.Writes.length := flat_len (f := wB) r.Writes (fun x hx => by
    have h1 := textB_small (h.wl x hx).1
    have h2 := textB_small (h.wl x hx).2
    unfold wB
    rw [laT, laT, flagB_len]
    omega)
  unfold recB sealB threeB recH textsB
  simp only [laT, List.length_cons, List.length_nil]
  omega
theorem outR_len {b : List UInt8} (h : (outR b).2 = true) : b.length <= 5900 /\ SmallR (outR b).1 := by
  cases hc : ((sealF b).2 && goodR b (recS (sealF b).1)) with
  | false => rw [outR_no hc] at h; cases h
  | true =>
    rw [outR_yes hc]
    simp only [baT] at hc
    obtain ⟨h1, h2⟩ := hc
    have h3 := h2
    unfold goodR at h3
    simp only [baT, Bool.not_eq_true', decide_eq_true_eq] at h3
    have hs := recS_small (sealF_len h1).1 h3.1.1
    have := recB_small hs h3.1.2
    rw [h3.2] at this
    exact ⟨this, hs⟩
theorem zeroR_small : SmallR zeroR := ⟨Nat.zero_le _, Nat.zero_le _, fun x hx => (by cases hx), fun x hx => (by cases hx)⟩
theorem outR_small {b : List UInt8} : SmallR (outR b).1 := by
  cases h : (outR b).2 with
  | true => exact (outR_len h).2
  | false =>
    cases hc : ((sealF b).2 && goodR b (recS (sealF b).1)) with
    | false => rw [outR_no hc]; exact zeroR_small
    | true => rw [outR_yes hc] at h; cases h
theorem numL_hi {b : List UInt8} {s : Nat} : ∀ (f : Nat) (n q : Int) (a : Nat), (numL b s f n q a).2.1 <= a + f
  | 0, n, q, a => Nat.le_refl _
  | f + 1, n, q, a => by
    unfold numL
    cases hx : b[a]? with
    | none => show a <= _; omega
    | some x =>
      simp only
      split
      · show a + 1 <= _; omega
      · split
        · unfold finI
          split
          · show a + 1 <= _; omega
          · show a + 1 <= _; omega
        · have := numL_hi (b := b) (s := s) f (n + ((x.toNat % 128 : Nat) : Int) * q) (q * 128) (a + 1)
          omega
def zeroE : EntryT := ⟨0, zeroR⟩
def okE (b : List UInt8) : Bool := decide (b.length <= 6000) && !(numFS b 0 false).2.2 && inB 1 (numFS b 0 false).1 200 && (outR (b.drop (numFS b 0 false).2.1)).2
def outE (b : List UInt8) : EntryT := match okE b with | true => ⟨(numFS b 0 false).1, (outR (b.drop (numFS b 0 false).2.1)).1⟩ | false => zeroE
theorem outE_yes {b : List UInt8} (h : okE b = true) : outE b = ⟨(numFS b 0 false).1, (outR (b.drop (numFS b 0 false).2.1)).1⟩ := by unfold outE; rw [h]
theorem outE_no {b : List UInt8} (h : okE b = false) : outE b = zeroE := by unfold outE; rw [h]
theorem num0_rel {b : List UInt8} : RelG (numFI b 0 false) (numFS b 0 false) := numF_rel
theorem okE_I {b : List UInt8} (h : (numFI b 0 false).2.2 = false) (h2 : inB 1 (numFI b 0 false).1 200 = true) : okE b = (outR (b.drop (numFI b 0 false).2.1)).2 := by
  have e := num0_rel (b := b)
  have hs : (numFS b 0 false).2.2 = false := e.1.symm.trans h
  have e2 := e.2 hs
  unfold okE
  rw [<- e2, h, h2]
  cases hr : (outR (b.drop (numFI b 0 false).2.1)).2 with
  | false => rw [Bool.and_false]
  | true =>
    have hl := (outR_len hr).1
    rw [List.length_drop] at hl
    have hh : (numFI b 0 false).2.1 <= 0 + 6 := numL_hi 6 0 1 0
    rw [decide_eq_true (by omega)]
    rfl
theorem outE_I {b : List UInt8} (h : (numFI b 0 false).2.2 = false) (h2 : inB 1 (numFI b 0 false).1 200 = true) (h3 : (outR (b.drop (numFI b 0 false).2.1)).2 = true) : outE b = ⟨(numFI b 0 false).1, (outR (b.drop (numFI b 0 false).2.1)).1⟩ := by
  have e := num0_rel (b := b)
  have hs : (numFS b 0 false).2.2 = false := e.1.symm.trans h
  rw [outE_yes ((okE_I h h2).trans h3), <- e.2 hs]
theorem okE_bad {b : List UInt8} (h : (numFI b 0 false).2.2 = true) : okE b = false := by
  have hs : (numFS b 0 false).2.2 = true := num0_rel.1.symm.trans h
  unfold okE
  rw [hs]
  simp
theorem okE_in {b : List UInt8} (h : (numFI b 0 false).2.2 = false) (h2 : inB 1 (numFI b 0 false).1 200 = false) : okE b = false := by
  have e := num0_rel (b := b)
  have hs : (numFS b 0 false).2.2 = false := e.1.symm.trans h
  unfold okE
  rw [<- e.2 hs, h2]
  simp
theorem rest_eq {b : List UInt8} {a : Nat} : List.drop ((a : Nat) : Int).toNat (List.take ((b.length : Nat) : Int).toNat b) = b.drop a := by
  rw [Int.toNat_natCast, Int.toNat_natCast, List.take_length]
theorem c_impl_ReadEntry (b : List UInt8) (hb : b.length <= 1073741824) : PC Tryz.prog false 98 [.str b] (.tup [.agg [.int .i64 (outE b).Term, .int .i64 (outE b).Rec.Kind, .int .i64 (outE b).Rec.Txn, .int .i64 (outE b).Rec.Time, .int .i64 (outE b).Rec.Lead, .own 0, .own 1, .bool (outE b).Rec.Yes], .bool (okE b)]) [⟨false, 9, 1, (outE b).Rec.Reads.map strC⟩, ⟨false, 131, 3, (outE b).Rec.Writes.map WriteT.cells⟩] := by
  have ok := numFI_ok (b := b) (f := false) (Nat.zero_le _)
  have hi := ok.hi
  have hrr := c_impl_ReadRec (b.drop (numFI b 0 false).2.1) (by rw [List.length_drop]; omega)
  refine pc_at Tryz.func98 rfl (by kernel_rfl) 39 [.cell 2 50, .tmp 3] rfl rfl ?_
  repeat' (conv => whnf); first
 | refine nameB_true ?_
 | refine nameB_false ?_
 | (refine nameB_cases (fun h => ?_) (fun h => ?_) <;> try simp only [nmL, lensB] at h)
 | refine splitB_true ?_
 | refine splitB_false ?_
 | refine CallB (c_impl_num b 0 false (Nat.zero_le _) hb) rfl rfl rfl rfl rfl rfl ?_
 | refine Call0 (c_impl_within ..) rfl rfl ?_
 | refine CallF hrr (congrArg (fun l => [AV.str l]) (rest_eq (b := b) (a := (numFI b 0 false).2.1))) rfl rfl (nbT rfl) ?_
 | refine sdA ⟨nbT rfl, rfl⟩ ?_
 | refine sdA (by first | exact nbT rfl | exact rfl | omega | fail) ?_
 | refine sdA (by first | (and_intros <;> first | rfl | omega | exact nbT rfl) | fail) ?_
 | fail
  all_goals
    conv => whnf
    first
    | (have e : okE b = false := (by first | exact okE_bad ‹_› | exact okE_in ‹_› ‹_› | exact (okE_I ‹_› ‹_›).trans ‹_›); rw [outE_no e, e]; exact OutA_nilB 0 2 9 1 5 rfl rfl rfl (by decide) (OutA_nilB 0 3 131 3 6 rfl rfl rfl (by decide) (OutA_ids rfl rfl rfl ⟨⟨_, _, _, rfl, rfl⟩, ⟨_, _, _, rfl, rfl⟩, trivial⟩ rfl (.inr (by intro o ho; simp only [List.mem_cons, List.not_mem_nil, or_false] at ho; rcases ho with rfl | rfl <;> rfl)))))
    | (have e : okE b = true := (okE_I ‹_› ‹_›).trans ‹_›; rw [outE_I ‹_› ‹_› ‹_›, e]; exact OutA_ids rfl rfl rfl ⟨⟨_, _, _, rfl, rfl⟩, ⟨_, _, _, rfl, rfl⟩, trivial⟩ rfl (.inr (by intro o ho; simp only [List.mem_cons, List.not_mem_nil, or_false] at ho; rcases ho with rfl | rfl <;> exact flat_map (fun _ => rfl) _)))
theorem c_spec_l1Place (b : List UInt8) (hb : b.length <= 1073741824) : PC Tryz.prog false 157 [.str b, .int .i64 0] (.bool (decide (b.length <= 6000))) [] := by
  have hin : inB 0 0 (b.length : Int) = true := by simp only [inB, baT, decide_eq_true_eq]; omega
  have hc := c_spec_l1In 0 0 (b.length : Int)
  rw [hin] at hc
  refine pc_at Tryz.func157 rfl (by kernel_rfl) 14 [.tmp 4] rfl rfl ?_
  repeat' (conv => whnf); first
 | refine nameB_true ?_
 | (refine nameB_dec (fun h => ?_) (fun h => ?_) <;> try simp only [lensB] at h)
 | refine splitB_true ?_
 | refine splitB_false ?_
 | refine Call0 (hc) rfl rfl ?_
 | fail
  all_goals
    conv => whnf
    refine OutA_plain rfl rfl ?_
    first
    | (rw [decide_eq_true (p := b.length <= 6000) (by omega)]; rfl)
    | (rw [decide_eq_false (p := b.length <= 6000) (by omega)]; rfl)
theorem c_spec_ReadNum_no (b : List UInt8) (hb : b.length <= 1073741824) (h : (decide (b.length <= 6000) && !(numFS b 0 false).2.2) = false) : PC Tryz.prog false 140 [.str b, .int .i64 0] (.tup [.int .i64 0, .int .i64 0, .bool false]) [] := by
  refine pc_at Tryz.func140 rfl (by kernel_rfl) 28 [.tmp 4, .tmp 5, .tmp 6] rfl rfl ?_
  repeat' (conv => whnf); first
 | refine nameB_true ?_
 | refine nameB_false ?_
 | (refine nameB_dec (fun h => ?_) (fun h => ?_) <;> try simp only [lensB] at h)
 | (refine nameB_cases (fun h => ?_) (fun h => ?_) <;> try simp only [nmL, lensB] at h)
 | refine splitB_true ?_
 | refine splitB_false ?_
 | refine draw_text (by kernel_rfl) (by kernel_rfl) (by kernel_rfl) ?_
 | refine Call0 (c_spec_l1Place b hb) rfl rfl ?_
 | refine CallB (c_spec_num b 0 false (Nat.zero_le _) hb) rfl rfl rfl rfl rfl rfl ?_
 | refine sdA (by first | exact nbT rfl | exact rfl | omega | fail) ?_
 | fail
  all_goals
    conv => whnf
    first
    | exact OutA_plain rfl rfl rfl
    | (exfalso; simp_all; done)
theorem c_spec_ReadNum_yes (b : List UInt8) (hb : b.length <= 1073741824) (h : (decide (b.length <= 6000) && !(numFS b 0 false).2.2) = true) : PC Tryz.prog false 140 [.str b, .int .i64 0] (.tup [.int .i64 (numFS b 0 false).1, .int .i64 ((numFS b 0 false).2.1 : Int), .bool true]) [] := by
  refine pc_at Tryz.func140 rfl (by kernel_rfl) 28 [.tmp 4, .tmp 5, .tmp 6] rfl rfl ?_
  repeat' (conv => whnf); first
 | refine nameB_true ?_
 | refine nameB_false ?_
 | (refine nameB_dec (fun h => ?_) (fun h => ?_) <;> try simp only [lensB] at h)
 | (refine nameB_cases (fun h => ?_) (fun h => ?_) <;> try simp only [nmL, lensB] at h)
 | refine splitB_true ?_
 | refine splitB_false ?_
 | refine draw_text (by kernel_rfl) (by kernel_rfl) (by kernel_rfl) ?_
 | refine Call0 (c_spec_l1Place b hb) rfl rfl ?_
 | refine CallB (c_spec_num b 0 false (Nat.zero_le _) hb) rfl rfl rfl rfl rfl rfl ?_
 | refine sdA (by first | exact nbT rfl | exact rfl | omega | fail) ?_
 | fail
  all_goals
    conv => whnf
    first
    | exact OutA_plain rfl rfl rfl
    | (exfalso; simp_all; done)
theorem c_spec_ReadEntry (b : List UInt8) (hb : b.length <= 1073741824) : PC Tryz.prog false 103 [.str b] (.tup [.agg [.int .i64 (outE b).Term, .int .i64 (outE b).Rec.Kind, .int .i64 (outE b).Rec.Txn, .int .i64 (outE b).Rec.Time, .int .i64 (outE b).Rec.Lead, .own 0, .own 1, .bool (outE b).Rec.Yes], .bool (okE b)]) [⟨false, 9, 1, (outE b).Rec.Reads.map strC⟩, ⟨false, 131, 3, (outE b).Rec.Writes.map WriteT.cells⟩] := by
  have ok := numFS_ok (b := b) (f := false) (Nat.zero_le _)
  have hi := ok.hi
  have hrr := c_spec_ReadRec (b.drop (numFS b 0 false).2.1) (by rw [List.length_drop]; omega)
  cases hn : (decide (b.length <= 6000) && !(numFS b 0 false).2.2) with
  | false =>
    have e : okE b = false := by unfold okE; rw [hn]; rfl
    rw [outE_no e, e]
    refine pc_at Tryz.func103 rfl (by kernel_rfl) 36 [.cell 2 50, .tmp 3] rfl rfl ?_
    repeat' (conv => whnf); first
 | refine nameB_true ?_
 | refine splitB_true ?_
 | refine Call0 (c_spec_ReadNum_no b hb hn) rfl rfl ?_
 | refine sdA ⟨nbT rfl, rfl⟩ ?_
 | refine sdA (by first | (and_intros <;> first | rfl | omega | exact nbT rfl) | fail) ?_
 | fail
    all_goals
      conv => whnf
      exact OutA_nilB 0 2 9 1 5 rfl rfl rfl (by decide) (OutA_nilB 0 3 131 3 6 rfl rfl rfl (by decide) (OutA_ids rfl rfl rfl ⟨⟨_, _, _, rfl, rfl⟩, ⟨_, _, _, rfl, rfl⟩, trivial⟩ rfl (.inr (by intro o ho; simp only [List.mem_cons, List.not_mem_nil, or_false] at ho; rcases ho with rfl | rfl <;> rfl))))
  | true =>
    have hok : okE b = (inB 1 (numFS b 0 false).1 200 && (outR (b.drop (numFS b 0 false).2.1)).2) := by unfold okE; rw [hn, Bool.true_and]
    refine pc_at Tryz.func103 rfl (by kernel_rfl) 36 [.cell 2 50, .tmp 3] rfl rfl ?_
    repeat' (conv => whnf); first
 | refine nameB_true ?_
 | refine nameB_false ?_
 | (refine nameB_cases (fun h => ?_) (fun h => ?_) <;> try simp only [nmL, lensB] at h)
 | refine splitB_true ?_
 | refine splitB_false ?_
 | refine Call0 (c_spec_ReadNum_yes b hb hn) rfl rfl ?_
 | refine Call0 (c_spec_l1In ..) rfl rfl ?_
 | refine CallF hrr (congrArg (fun l => [AV.str l]) (rest_eq (b := b) (a := (numFS b 0 false).2.1))) rfl rfl (nbT rfl) ?_
 | refine sdA ⟨nbT rfl, rfl⟩ ?_
 | refine sdA (by first | exact nbT rfl | exact rfl | omega | fail) ?_
 | refine sdA (by first | (and_intros <;> first | rfl | omega | exact nbT rfl) | fail) ?_
 | fail
    all_goals
      conv => whnf
      first
      | (have e : okE b = false := (by rw [hok]; first | (simp [*]; done) | (simp_all; done)); rw [outE_no e, e]; exact OutA_nilB 0 2 9 1 5 rfl rfl rfl (by decide) (OutA_nilB 0 3 131 3 6 rfl rfl rfl (by decide) (OutA_ids rfl rfl rfl ⟨⟨_, _, _, rfl, rfl⟩, ⟨_, _, _, rfl, rfl⟩, trivial⟩ rfl (.inr (by intro o ho; simp only [List.mem_cons, List.not_mem_nil, or_false] at ho; rcases ho with rfl | rfl <;> rfl)))))
      | (have e : okE b = true := (by rw [hok]; first | (simp [*]; done) | (simp_all; done)); rw [outE_yes e, e]; exact OutA_ids rfl rfl rfl ⟨⟨_, _, _, rfl, rfl⟩, ⟨_, _, _, rfl, rfl⟩, trivial⟩ rfl (.inr (by intro o ho; simp only [List.mem_cons, List.not_mem_nil, or_false] at ho; rcases ho with rfl | rfl <;> exact flat_map (fun _ => rfl) _)))
theorem outE_small {b : List UInt8} : SmallR (outE b).Rec := by
  cases h : okE b with
  | true => rw [outE_yes h]; exact outR_small
  | false => rw [outE_no h]; exact zeroR_small
theorem small_ok {X : EntryT} (h : SmallR X.Rec) : X.ok := ⟨trivial, h.ok⟩
theorem finS_eq {b : List UInt8} {s : Nat} {n : Int} {a : Nat} (h : (finS b s n a).2.2 = false) : numB (finS b s n a).1 = (b.take (finS b s n a).2.1).drop s := by
  unfold finS at h ⊢
  by_cases hc : n > 1000000000 \/ numB n ≠ (b.take a).drop s
  · rw [if_pos hc] at h; cases h
  · rw [if_neg hc]
    exact Decidable.byContradiction fun e => hc (.inr e)
theorem numM_eq {b : List UInt8} {s : Nat} : ∀ (f : Nat) (n q : Int) (a : Nat), (numM b s f n q a).2.2 = false -> numB (numM b s f n q a).1 = (b.take (numM b s f n q a).2.1).drop s
  | 0, n, q, a, h => by
    unfold numM at h ⊢
    exact finS_eq h
  | f + 1, n, q, a, h => by
    unfold numM at h ⊢
    cases hx : b[a]? with
    | none => rw [hx] at h; cases h
    | some x =>
      rw [hx] at h
      simp only at h ⊢
      by_cases hl : x.toNat < 128
      · rw [if_pos hl] at h ⊢
        exact finS_eq h
      · rw [if_neg hl] at h ⊢
        exact numM_eq f _ _ _ h
theorem numFS_eq {b : List UInt8} {a : Nat} (h : (numFS b a false).2.2 = false) : numB (numFS b a false).1 = (b.take (numFS b a false).2.1).drop a := numM_eq 5 0 1 a h
theorem numFS_end {b : List UInt8} {a : Nat} (h : b.length <= a) : (numFS b a false).2.2 = true := by
  show (numM b a 5 0 1 a).2.2 = true
  unfold numM
  rw [List.getElem?_eq_none_iff.2 h]
def frN (b : List UInt8) (a : Nat) : Int := (numFS b a false).1
def frM (b : List UInt8) (a : Nat) : Nat := (numFS b a false).2.1
def frS (b : List UInt8) (a : Nat) : List UInt8 := (b.take (frM b a + (frN b a).toNat)).drop (frM b a)
def frE (b : List UInt8) (a : Nat) : Nat := frM b a + (frN b a).toNat + 3
def frOk (b : List UInt8) (a : Nat) : Bool := !(numFS b a false).2.2 && decide (frN b a <= 700) && decide (frN b a + 3 <= (b.length : Int) - frM b a) && decide (sealB (frS b a) = (b.take (frE b a)).drop (frM b a))
def frR (b : List UInt8) (a : Nat) : List UInt8 := match frOk b a with | true => frS b a | false => []
theorem frOk_lt {b : List UInt8} {a : Nat} (h : frOk b a = true) : a < frM b a /\ frE b a <= b.length /\ 0 <= frN b a /\ frN b a <= 700 := by
  unfold frOk at h
  simp only [baT, Bool.not_eq_true', decide_eq_true_eq] at h
  obtain ⟨⟨⟨h1, h2⟩, h3⟩, h4⟩ := h
  have ha : a <= b.length := by
    rcases Nat.lt_or_ge b.length a with h | h
    · have := numFS_end (b := b) (a := a) (by omega)
      rw [this] at h1; cases h1
    · exact h
  have ok := numFS_ok (f := false) ha
  refine ⟨ok.go h1, ?_, ok.nn, h2⟩
  have := ok.nn
  unfold frE
  unfold frN at h3 ⊢
  unfold frM at h3 ⊢
  omega
theorem frE_lt {b : List UInt8} {a : Nat} (h : frOk b a = true) : a < frE b a /\ frE b a <= b.length := by
  have := frOk_lt h
  unfold frE at this ⊢
  omega
theorem frS_len {b : List UInt8} {a : Nat} (h : frN b a + 3 <= (b.length : Int) - frM b a) : (frS b a).length = (frN b a).toNat := by
  unfold frS
  rw [List.length_drop, List.length_take]
  omega
def frs (b : List UInt8) : Nat -> Nat -> List (List UInt8) × Nat
  | 0, a => ([], a)
  | k + 1, a => match frOk b a with | false => ([], a) | true => (frS b a :: (frs b k (frE b a)).1, (frs b k (frE b a)).2)
def frames (b : List UInt8) (a : Nat) : List (List UInt8) × Nat := frs b (b.length + 1 - a) a
theorem frs_more {b : List UInt8} : ∀ (k a : Nat), b.length + 1 - a <= k -> frs b k a = frs b (b.length + 1 - a) a := by
  intro k
  induction k using Nat.strongRecOn with
  | _ k ih =>
    intro a h
    cases k with
    | zero => rw [show b.length + 1 - a = 0 by omega]
    | succ k =>
      cases hk : b.length + 1 - a with
      | zero =>
        unfold frs
        cases hf : frOk b a with
        | false => rfl
        | true => have := frE_lt hf; omega
      | succ j =>
        unfold frs
        cases hf : frOk b a with
        | false => rfl
        | true =>
          have he := frE_lt hf
          simp only
          rw [ih k (by omega) (frE b a) (by omega), ih j (by omega) (frE b a) (by omega)]
theorem frames_no {b : List UInt8} {a : Nat} (h : frOk b a = false) : frames b a = ([], a) := by
  unfold frames
  cases b.length + 1 - a with
  | zero => rfl
  | succ k => unfold frs; rw [h]
theorem frames_yes {b : List UInt8} {a : Nat} (h : frOk b a = true) : frames b a = (frS b a :: (frames b (frE b a)).1, (frames b (frE b a)).2) := by
  have he := frE_lt h
  unfold frames
  obtain ⟨k, hk⟩ : ∃ k, b.length + 1 - a = k + 1 := ⟨b.length - a, by omega⟩
  rw [hk]
  conv => lhs; unfold frs
  rw [h]
  simp only
  rw [frs_more k (frE b a) (by omega)]
theorem frames_le {b : List UInt8} : ∀ (k a : Nat), b.length + 1 - a <= k -> a <= b.length -> (frames b a).2 <= b.length /\ (frames b a).1.length <= b.length - a /\ ∀ s ∈ (frames b a).1, s.length <= 700 := by
  intro k
  induction k with
  | zero => intro a h ha; omega
  | succ k ih =>
    intro a h ha
    cases hf : frOk b a with
    | false => rw [frames_no hf]; exact ⟨ha, Nat.zero_le _, fun s hs => by cases hs⟩
    | true =>
      have he := frE_lt hf
      obtain ⟨h1, h2, h3⟩ := ih (frE b a) (by omega) he.2
      rw [frames_yes hf]
      refine ⟨h1, by simp only [List.length_cons]; omega, fun s hs => ?_⟩
      rcases List.mem_cons.1 hs with rfl | hs
      · have hq := frOk_lt hf
        have : (frS b a).length = (frN b a).toNat := frS_len (by unfold frE at hq; omega)
        omega
      · exact h3 s hs
theorem frames_ok {b : List UInt8} : (frames b 0).2 <= b.length /\ (frames b 0).1.length <= b.length /\ ∀ s ∈ (frames b 0).1, s.length <= 700 := by
  have := frames_le (b := b) (b.length + 1) 0 (by omega) (Nat.zero_le _)
  exact ⟨this.1, by omega, this.2.2⟩
def fX (b : List UInt8) (a : Nat) := numFI b a false
def fY (b : List UInt8) (a : Nat) := takeF b (fX b a).2.1 (fX b a).2.2 (fX b a).1
def fZ (b : List UInt8) (a : Nat) := takeF b (fY b a).2.1 (fY b a).2.2 3
theorem cut3 {b : List UInt8} {m n k : Nat} (h : n <= b.length) (hm : m <= n) (hk : n <= k) : (b.take k).drop m = (b.take n).drop m ++ (b.take k).drop n := by
  have e : b.take k = b.take n ++ (b.take k).drop n := by
    have := (List.take_append_drop n (b.take k)).symm
    rw [List.take_take, Nat.min_eq_left hk] at this
    exact this
  conv => lhs; rw [e]
  rw [List.drop_append_of_le_length (by rw [List.length_take]; omega)]
theorem fr_impl {b : List UInt8} {a : Nat} (ha : a <= b.length) : (decide ((fX b a).1 <= 700) && !(fZ b a).2.2 && decide (sealB (fY b a).1 = (fY b a).1 ++ (fZ b a).1)) = frOk b a /\ (frOk b a = true -> (fY b a).1 = frS b a /\ (fZ b a).2.1 = frE b a) := by
  have hrel : RelG (fX b a) (numFS b a false) := numF_rel
  have ok := numFS_ok (f := false) ha
  cases hb : (numFS b a false).2.2 with
  | true =>
    have hx : (fX b a).2.2 = true := by rw [hrel.1, hb]
    have hy : (fY b a).2.2 = true := by unfold fY; rw [takeF_no (.inl hx)]
    have hz : (fZ b a).2.2 = true := by unfold fZ; rw [takeF_no (.inl hy)]
    have hf : frOk b a = false := by unfold frOk; rw [hb]; rfl
    rw [hz, hf]
    simp
  | false =>
    have hx : fX b a = numFS b a false := hrel.2 hb
    have hxn : (fX b a).1 = frN b a := by rw [hx]; rfl
    have hxm : (fX b a).2.1 = frM b a := by rw [hx]; rfl
    have hxb : (fX b a).2.2 = false := by rw [hx, hb]
    have hnn : 0 <= frN b a := ok.nn
    have hmm : frM b a <= b.length := ok.hi
    by_cases h1 : frN b a > (b.length : Int) - frM b a
    · have hy : fY b a = ([], frM b a, true) := by unfold fY; rw [hxn, hxm]; exact takeF_no (.inr h1)
      have hz : (fZ b a).2.2 = true := by unfold fZ; rw [takeF_no (.inl (by rw [hy]))]
      have hf : frOk b a = false := by unfold frOk; rw [decide_eq_false (p := frN b a + 3 <= (b.length : Int) - frM b a) (by omega)]; simp
      rw [hz, hf]
      simp
    · have hy : fY b a = (frS b a, frM b a + (frN b a).toNat, false) := by unfold fY; rw [hxn, hxm]; exact takeF_yes hxb h1
      by_cases h2 : (3 : Int) > (b.length : Int) - ((frM b a + (frN b a).toNat : Nat) : Int)
      · have hz : (fZ b a).2.2 = true := by unfold fZ; rw [hy, takeF_no (.inr h2)]
        have hf : frOk b a = false := by unfold frOk; rw [decide_eq_false (p := frN b a + 3 <= (b.length : Int) - frM b a) (by omega)]; simp
        rw [hz, hf]
        simp
      · have hz : fZ b a = ((b.take (frE b a)).drop (frM b a + (frN b a).toNat), frE b a, false) := by unfold fZ; rw [hy, takeF_yes rfl h2]; rfl
        have hcut : frS b a ++ (b.take (frE b a)).drop (frM b a + (frN b a).toNat) = (b.take (frE b a)).drop (frM b a) := (cut3 (by omega) (by omega) (by unfold frE; omega)).symm
        rw [hy, hz, hxn]
        simp only
        rw [hcut]
        refine ⟨?_, fun _ => ⟨trivial, trivial⟩⟩
        unfold frOk
        rw [hb, decide_eq_true (p := frN b a + 3 <= (b.length : Int) - frM b a) (by omega)]
        simp
theorem fX_ok {b : List UInt8} {a : Nat} (ha : a <= b.length) : OkN b a (fX b a) := numFI_ok ha
theorem fY_ok {b : List UInt8} {a : Nat} (ha : a <= b.length) : OkA b (fX b a).2.1 (fY b a) := takeF_ok (fX_ok ha).hi (fX_ok ha).nn
theorem fr_spec {b : List UInt8} {a : Nat} (ha : a <= b.length) (hb : (numFS b a false).2.2 = false) (h2 : frN b a + 3 <= (b.length : Int) - frM b a) : (numB ((frS b a).length : Nat) ++ sealB (frS b a) = (b.take (frE b a)).drop a) ↔ sealB (frS b a) = (b.take (frE b a)).drop (frM b a) := by
  have ok := numFS_ok (f := false) ha
  have hnn : 0 <= frN b a := ok.nn
  have hgo : a < frM b a := ok.go hb
  rw [frS_len h2, Int.toNat_of_nonneg hnn, cut3 (b := b) (m := a) (n := frM b a) (k := frE b a) ok.hi (Nat.le_of_lt hgo) (by unfold frE; omega)]
  have e : numB (frN b a) = (b.take (frM b a)).drop a := numFS_eq hb
  rw [e]
  exact ⟨fun h => List.append_cancel_left h, fun h => by rw [h]⟩
end Go.Proofs.YtjjjalcmcifncaaGreat
