/- Part 4 of one proof: lemmas and contracts, laid one behind the other. No condition. -/
import Derived.Test.YtfpkfnfgloonhaaGreatF3
import Derived.Test.YtfpkfnfgloonhaaGreatM4
import Derived.Test.YtfpkfnfgloonhaaGreatF2
import Derived.Test.YtfpkfnfgloonhaaGreatF1
namespace Go.Proofs.YtfpkfnfgloonhaaGreat
open Go.Ab
set_option linter.unusedSimpArgs false
set_option maxRecDepth 20000
set_option maxHeartbeats 4000000
set_option linter.unusedVariables false

theorem c_spec_texts (b : List UInt8) (a : Nat) (f : Bool) (ha : a ≤ b.length) (hb : b.length ≤ 1000000) : BC Tryz.prog 177 196 [.str b, .int .i64 (a : Int), .bool f] [] (.own 0) [⟨false, 9, 1, (textsFS b a f).1.map strC⟩] [.str b, .int .i64 ((textsFS b a f).2.1 : Int), .bool (textsFS b a f).2.2] := by
  have ok := numFS_ok (b := b) (f := f) ha
  have nn := ok.nn
  have le := ok.le
  refine bc_of Tryz.func177 rfl (by kernel_rfl) 3 29 [.tmp 2] rfl rfl rfl (by decide) rfl ?_
  repeat' (conv => whnf); first
 | refine side_and (side_of (one_lenC rfl rfl)) ?_
 | refine side_and (side_of (by first | (and_intros <;> first | exact Nat.le_of_ble_eq_true rfl | rfl | (intro e; exact absurd (AV.own.inj e) (by decide)) | (intro e; exact AV.noConfusion e)) | fail)) ?_
 | refine side_and (side_of (app_boundC (L := out.map strC) rfl (by (try simp only [List.length_map, List.length_append, List.length_take, List.length_set, List.length_drop]); omega) (Nat.le_of_ble_eq_true rfl))) ?_
 | refine nameB_true ?_
 | refine nameB_false ?_
 | (refine nameB_dec (fun h => ?_) (fun h => ?_) <;> try simp only [lensB] at h)
 | (refine nameB_cases (fun h => ?_) (fun h => ?_) <;> try simp only [nmL, lensB] at h)
 | refine splitB_true ?_
 | refine splitB_false ?_
 | ((refine Loop_nil 4 20480 9 1 rfl rfl (by decide) ?_; refine Loop_at [0] [] (Nat × List (List UInt8) × Nat × Bool) (fun j => match j with | (k, out, c, g) => manyG (fun a => textFS b a false) k out c g = textsFS b a f ∧ k ≤ 1000000000 ∧ c ≤ b.length ∧ out.length ≤ c + 1 ∧ (g = false → out.length ≤ c)) (fun j => match j with | (k, out, c, g) => [(3, .int .i64 (k)), (4, .own 20480)]) (fun j => match j with | (k, out, c, g) => [(0, ⟨true, 196, 3, [[.str b, .int .i64 (c : Int), .bool g]]⟩), (20480, ⟨false, 9, 1, out.map strC⟩)]) (fun j => match j with | (k, out, c, g) => k) ((numFS b a f).1.toNat, [], (numFS b a f).2.1, (numFS b a f).2.2 || decide ((numFS b a f).1 > 40)) ⟨by first | first | rfl | exact congrArg (AV.int .i64) (by omega) | exact congrArg (AV.int .i64) ((i64_wrap (by omega) (by omega)).trans (by omega)) | rfl | fail, by first | rfl | first | rfl | exact congrArg (AV.int .i64) (by omega) | exact congrArg (AV.int .i64) ((i64_wrap (by omega) (by omega)).trans (by omega)) | fail, trivial⟩ ⟨by first | rfl | first | rfl | exact congrArg (fun e => some (AObj.mk _ _ _ e)) app_str | exact congrArg (fun z => some (AObj.mk _ _ _ [[AV.str b, AV.int .i64 _, AV.bool z]])) (or_dec (by assumption)) | exact congrArg (fun z => some (AObj.mk _ _ _ [[AV.str b, AV.int .i64 _, AV.bool z]])) (or_dec_no (by assumption)) | fail | fail, by first | rfl | first | rfl | exact congrArg (fun e => some (AObj.mk _ _ _ e)) app_str | exact congrArg (fun z => some (AObj.mk _ _ _ [[AV.str b, AV.int .i64 _, AV.bool z]])) (or_dec (by assumption)) | exact congrArg (fun z => some (AObj.mk _ _ _ [[AV.str b, AV.int .i64 _, AV.bool z]])) (or_dec_no (by assumption)) | fail | fail, trivial⟩ (by (try dsimp only); first | (exact ⟨rfl, by omega, ok.hi, Nat.zero_le _, fun _ => Nat.zero_le _⟩) | fail) ?_; (conv => whnf); refine side_and (side_of (by first | exact fun ⟨k, out, c, g⟩ => rfl | exact fun ⟨k, out, c, g⟩ => by simp [headOk, closedE, closedO, closedL, AV.closed, hcap.closed, hasId, AObj.box, BK.ofB])) ?_; rintro ⟨k, out, c, g⟩ hT; try dsimp only at hT))
 | (refine Again_of (k - 1, out ++ [(textFS b c g).1], (textFS b c g).2.1, (textFS b c g).2.2) ⟨by first | first | rfl | exact congrArg (AV.int .i64) (by omega) | exact congrArg (AV.int .i64) ((i64_wrap (by omega) (by omega)).trans (by omega)) | rfl | fail, by first | rfl | first | rfl | exact congrArg (AV.int .i64) (by omega) | exact congrArg (AV.int .i64) ((i64_wrap (by omega) (by omega)).trans (by omega)) | fail, trivial⟩ ⟨by first | rfl | first | rfl | exact congrArg (fun e => some (AObj.mk _ _ _ e)) app_str | exact congrArg (fun z => some (AObj.mk _ _ _ [[AV.str b, AV.int .i64 _, AV.bool z]])) (or_dec (by assumption)) | exact congrArg (fun z => some (AObj.mk _ _ _ [[AV.str b, AV.int .i64 _, AV.bool z]])) (or_dec_no (by assumption)) | fail | fail, by first | rfl | first | rfl | exact congrArg (fun e => some (AObj.mk _ _ _ e)) app_str | exact congrArg (fun z => some (AObj.mk _ _ _ [[AV.str b, AV.int .i64 _, AV.bool z]])) (or_dec (by assumption)) | exact congrArg (fun z => some (AObj.mk _ _ _ [[AV.str b, AV.int .i64 _, AV.bool z]])) (or_dec_no (by assumption)) | fail | fail, trivial⟩ (by first | (and_intros <;> first | rfl | trivial) | fail) (by first | (and_intros <;> first | rfl | trivial) | fail) rfl rfl rfl (by (try dsimp only); first | ((have hg : g = false := (by assumption); subst hg; have ho := textFS_ok (b := b) (f := false) hT.2.2.1; have hl := hT.2.2.2.2 rfl; have lo := ho.lo; exact ⟨manyG_go hT.1 (by omega), by omega, ho.hi, by rw [List.length_append]; show out.length + 1 ≤ _; omega, fun e => by have := textFS_go hT.2.2.1 e; rw [List.length_append]; show out.length + 1 ≤ _; omega⟩)) | fail) (show _ < _ by (try dsimp only); omega))
 | refine CallB (c_spec_num b a f ha (by omega)) rfl rfl rfl rfl rfl rfl ?_
 | refine CallB (c_spec_text b c g hT.2.2.1 (by omega)) rfl rfl rfl rfl rfl rfl ?_
 | fail
  all_goals
    conv => whnf
    first
    | (rw [← manyG_end hT.1 (by first | (left; omega) | (right; assumption))]; exact OutB_ids rfl rfl rfl ⟨⟨_, _, _, rfl, rfl⟩, trivial⟩ rfl rfl rfl rfl (flat_one (flat_map (fun _ => rfl) _)) rfl)
def sealF (b : List UInt8) : List UInt8 × Bool := if 3 ≤ b.length ∧ b.length ≤ 6000 ∧ sealB (b.take (b.length - 3)) = b then (b.take (b.length - 3), true) else ([], false)
theorem sealF_no {b : List UInt8} (h : ¬ (3 ≤ b.length ∧ b.length ≤ 6000 ∧ sealB (b.take (b.length - 3)) = b)) : sealF b = ([], false) := by unfold sealF; rw [if_neg h]
theorem sealF_yes {b : List UInt8} (h : 3 ≤ b.length) (h2 : b.length ≤ 6000) (h3 : sealB (b.take (b.length - 3)) = b) : sealF b = (b.take (b.length - 3), true) := by unfold sealF; rw [if_pos ⟨h, h2, h3⟩]
theorem c_impl_OpenSeal (b : List UInt8) (hb : b.length ≤ 1073741824) : PC Tryz.prog false 204 [.str b] (.tup [.str (sealF b).1, .bool (sealF b).2]) [] := by
  by_cases h3 : 3 ≤ b.length ∧ b.length ≤ 6000
  · have hw := i64_wrap (e := (b.length : Int) - 3) (by omega) (by omega)
    have ht : (IntKind.i64.wrap ((b.length : Int) - 3)).toNat = b.length - 3 := by rw [hw]; omega
    have hin : inB 3 (b.length : Int) 6000 = true := by simp only [inB, Bool.and_eq_true, decide_eq_true_eq]; omega
    have hc := c_impl_within (b.length : Int) 3 6000
    rw [hin] at hc
    have hs := c_impl_seal (b.take (b.length - 3)) (by rw [List.length_take]; omega)
    rw [← ht] at hs
    refine pc_at Tryz.func204 rfl (by kernel_rfl) 23 [.tmp 2, .tmp 3] rfl rfl ?_
    repeat' (conv => whnf); first
 | refine nameB_true ?_
 | refine nameB_false ?_
 | (refine nameB_cases (fun h => ?_) (fun h => ?_) <;> try simp only [nmL, lensB] at h)
 | refine splitB_true ?_
 | refine splitB_false ?_
 | refine Call0 (hc) rfl rfl ?_
 | refine Call0 (hs) rfl rfl ?_
 | refine side_and (side_of (by first | exact Nat.le_of_ble_eq_true rfl | exact rfl | omega | fail)) ?_
 | fail
    all_goals
      conv => whnf
      first
      | (rw [sealF_no (b := b) (fun e => absurd e.2.2 (by first | (rw [← ht]; assumption) | assumption))]; exact OutA_plain rfl rfl rfl)
      | (rw [sealF_yes (b := b) h3.1 h3.2 (by first | (rw [← ht]; assumption) | assumption)]; exact OutA_plain rfl rfl (by rw [ht]; rfl))
  · have hin : inB 3 (b.length : Int) 6000 = false := by
      simp only [inB, Bool.and_eq_false_iff, decide_eq_false_iff_not]; omega
    have hc := c_impl_within (b.length : Int) 3 6000
    rw [hin] at hc
    rw [sealF_no (b := b) (fun e => h3 ⟨e.1, e.2.1⟩)]
    refine pc_at Tryz.func204 rfl (by kernel_rfl) 23 [.tmp 2, .tmp 3] rfl rfl ?_
    repeat' (conv => whnf); first
 | refine nameB_true ?_
 | refine nameB_false ?_
 | refine splitB_true ?_
 | refine Call0 (hc) rfl rfl ?_
 | fail
    all_goals
      conv => whnf
      first
      | exact OutA_plain rfl rfl rfl
theorem c_spec_OpenSeal (b : List UInt8) (hb : b.length ≤ 1073741824) : PC Tryz.prog false 175 [.str b] (.tup [.str (sealF b).1, .bool (sealF b).2]) [] := by
  have hw := i64_wrap (e := (b.length : Int) - 3) (by omega) (by omega)
  by_cases h3 : 3 ≤ b.length ∧ b.length ≤ 6000
  · have ht : (IntKind.i64.wrap ((b.length : Int) - 3)).toNat = b.length - 3 := by rw [hw]; omega
    have hs := c_spec_l1Seal (b.take (b.length - 3)) (by rw [List.length_take]; omega)
    rw [← ht] at hs
    refine pc_at Tryz.func175 rfl (by kernel_rfl) 26 [.tmp 2, .tmp 3] rfl rfl ?_
    repeat' (conv => whnf); first
 | (refine nameB_dec (fun h => ?_) (fun h => ?_) <;> try simp only [lensB] at h)
 | (refine nameB_cases (fun h => ?_) (fun h => ?_) <;> try simp only [nmL, lensB] at h)
 | refine splitB_true ?_
 | refine splitB_false ?_
 | refine Call0 (hs) rfl rfl ?_
 | refine side_and (side_of (by first | exact Nat.le_of_ble_eq_true rfl | exact rfl | omega | fail)) ?_
 | fail
    all_goals
      conv => whnf
      first
      | (exfalso; omega)
      | (rw [sealF_no (b := b) (fun e => absurd e.2.2 (by first | (rw [← ht]; assumption) | assumption))]; exact OutA_plain rfl rfl rfl)
      | (rw [sealF_yes (b := b) h3.1 h3.2 (by first | (rw [← ht]; assumption) | assumption)]; exact OutA_plain rfl rfl (by rw [ht]; rfl))
  · rw [sealF_no (b := b) (fun e => h3 ⟨e.1, e.2.1⟩)]
    refine pc_at Tryz.func175 rfl (by kernel_rfl) 26 [.tmp 2, .tmp 3] rfl rfl ?_
    repeat' (conv => whnf); first
 | (refine nameB_dec (fun h => ?_) (fun h => ?_) <;> try simp only [lensB] at h)
 | refine splitB_true ?_
 | refine splitB_false ?_
 | refine side_and (side_of (by first | exact Nat.le_of_ble_eq_true rfl | exact rfl | omega | fail)) ?_
 | fail
    all_goals
      conv => whnf
      first
      | exact OutA_plain rfl rfl rfl
      | (exfalso; omega)
/-! The two readings of a record. -/
def rdWI (b : List UInt8) (a : Nat) (f : Bool) : WriteT × Nat × Bool :=
  (⟨(textFI b a f).1, (textFI b (takeF b (textFI b a f).2.1 (textFI b a f).2.2 1).2.1 (takeF b (textFI b a f).2.1 (textFI b a f).2.2 1).2.2).1, (takeF b (textFI b a f).2.1 (textFI b a f).2.2 1).1 == [1]⟩, (textFI b (takeF b (textFI b a f).2.1 (textFI b a f).2.2 1).2.1 (takeF b (textFI b a f).2.1 (textFI b a f).2.2 1).2.2).2)
def rdWS (b : List UInt8) (a : Nat) (f : Bool) : WriteT × Nat × Bool :=
  (⟨(textFS b a f).1, (textFS b (oneF b (textFS b a f).2.1 (textFS b a f).2.2).2.1 (oneF b (textFS b a f).2.1 (textFS b a f).2.2).2.2).1, (oneF b (textFS b a f).2.1 (textFS b a f).2.2).1 == 1⟩, (textFS b (oneF b (textFS b a f).2.1 (textFS b a f).2.2).2.1 (oneF b (textFS b a f).2.1 (textFS b a f).2.2).2.2).2)
theorem take_one_rel {b : List UInt8} {a : Nat} {f : Bool} (ha : a ≤ b.length) : (takeF b a f 1).2 = (oneF b a f).2 ∧ ((oneF b a f).2.2 = false → ((takeF b a f 1).1 == [1]) = ((oneF b a f).1 == 1)) := by
  cases f with
  | true => exact ⟨rfl, fun e => by cases e⟩
  | false =>
    cases hx : b[a]? with
    | none =>
      rw [takeF_one_no hx, oneF_no (.inr (by have := List.getElem?_eq_none_iff.1 hx; omega))]
      exact ⟨rfl, fun e => by cases e⟩
    | some x =>
      rw [takeF_one hx, oneF_yes hx]
      refine ⟨rfl, fun _ => ?_⟩
      rw [Bool.eq_iff_iff, beq_iff_eq, beq_iff_eq]
      constructor
      · intro h
        cases h
        rfl
      · intro h
        have : x = 1 := UInt8.toNat_inj.1 (by show x.toNat = 1; omega)
        rw [this]
theorem textFI_bad {b : List UInt8} {a : Nat} : textFI b a true = ([], a, true) := by
  unfold textFI numFI takeF
  exact if_neg (show ¬ (0 : Int) > 60 by decide)
theorem textFS_bad {b : List UInt8} {a : Nat} : textFS b a true = ([], a, true) := by
  unfold textFS numFS
  rw [if_pos (.inl rfl)]
theorem rdW_ok {b : List UInt8} {a : Nat} {f : Bool} (ha : a ≤ b.length) : OkA b a (rdWI b a f) := by
  have h1 := textFI_ok (b := b) (f := f) ha
  have h2 := takeF_ok (b := b) (f := (textFI b a f).2.2) (n := 1) h1.hi (by omega)
  have h3 := textFI_ok (b := b) (f := (takeF b (textFI b a f).2.1 (textFI b a f).2.2 1).2.2) h2.hi
  exact ⟨Nat.le_trans h1.lo (Nat.le_trans h2.lo h3.lo), h3.hi⟩
theorem rdWS_ok {b : List UInt8} {a : Nat} {f : Bool} (ha : a ≤ b.length) : OkA b a (rdWS b a f) := by
  have h1 := textFS_ok (b := b) (f := f) ha
  have h2 := oneF_ok (b := b) (f := (textFS b a f).2.2) h1.hi
  have h3 := textFS_ok (b := b) (f := (oneF b (textFS b a f).2.1 (textFS b a f).2.2).2.2) h2.hi
  exact ⟨Nat.le_trans h1.lo (Nat.le_trans h2.lo h3.lo), h3.hi⟩
theorem rdW_rel {b : List UInt8} {a : Nat} {f : Bool} (ha : a ≤ b.length) : RelG (rdWI b a f) (rdWS b a f) := by
  have h1 := textF_rel (b := b) (a := a) (f := f) ha
  have o1 := textFI_ok (b := b) (f := f) ha
  have p1 := textFS_ok (b := b) (f := f) ha
  cases hb : (textFS b a f).2.2 with
  | true =>
    have hi := h1.1.trans hb
    refine .bad ?_ ?_
    · show (textFI b (takeF b (textFI b a f).2.1 (textFI b a f).2.2 1).2.1 (takeF b (textFI b a f).2.1 (textFI b a f).2.2 1).2.2).2.2 = true
      rw [hi]
      show (textFI b (textFI b a f).2.1 true).2.2 = true
      rw [textFI_bad]
    · show (textFS b (oneF b (textFS b a f).2.1 (textFS b a f).2.2).2.1 (oneF b (textFS b a f).2.1 (textFS b a f).2.2).2.2).2.2 = true
      rw [hb]
      show (textFS b (textFS b a f).2.1 true).2.2 = true
      rw [textFS_bad]
  | false =>
    have e1 := h1.2 hb
    have h2 := take_one_rel (b := b) (a := (textFS b a f).2.1) (f := (textFS b a f).2.2) p1.hi
    have p2 := oneF_ok (b := b) (f := (textFS b a f).2.2) p1.hi
    have h3 := textF_rel (b := b) (a := (oneF b (textFS b a f).2.1 (textFS b a f).2.2).2.1) (f := (oneF b (textFS b a f).2.1 (textFS b a f).2.2).2.2) p2.hi
    unfold rdWI rdWS
    rw [e1, h2.1]
    refine ⟨h3.1, fun e => ?_⟩
    have e : (textFS b (oneF b (textFS b a f).2.1 (textFS b a f).2.2).2.1 (oneF b (textFS b a f).2.1 (textFS b a f).2.2).2.2).2.2 = false := e
    have e3 := h3.2 e
    have eo : (oneF b (textFS b a f).2.1 (textFS b a f).2.2).2.2 = false := by
      cases ho : (oneF b (textFS b a f).2.1 (textFS b a f).2.2).2.2 with
      | false => rfl
      | true => rw [ho, textFS_bad] at e; cases e
    rw [e3, h2.2 eo]
def rA1 (s : List UInt8) := numFI s 0 false
def rA2 (s : List UInt8) := numFI s (rA1 s).2.1 (rA1 s).2.2
def rA3 (s : List UInt8) := numFI s (rA2 s).2.1 (rA2 s).2.2
def rA4 (s : List UInt8) := numFI s (rA3 s).2.1 (rA3 s).2.2
def rA5 (s : List UInt8) := takeF s (rA4 s).2.1 (rA4 s).2.2 1
def rA6 (s : List UInt8) := textsFI s (rA5 s).2.1 (rA5 s).2.2
def rA7 (s : List UInt8) := numFI s (rA6 s).2.1 (rA6 s).2.2
def rA8 (s : List UInt8) := manyG (fun a => rdWI s a false) (rA7 s).1.toNat [] (rA7 s).2.1 (rA7 s).2.2
def recI (s : List UInt8) : RecT × Bool := (⟨(rA1 s).1, (rA2 s).1, (rA3 s).1, (rA4 s).1, (rA6 s).1, (rA8 s).1, (rA5 s).1 == [1]⟩, (rA8 s).2.2)
def rB1 (s : List UInt8) := numFS s 0 false
def rB2 (s : List UInt8) := numFS s (rB1 s).2.1 (rB1 s).2.2
def rB3 (s : List UInt8) := numFS s (rB2 s).2.1 (rB2 s).2.2
def rB4 (s : List UInt8) := numFS s (rB3 s).2.1 (rB3 s).2.2
def rB5 (s : List UInt8) := oneF s (rB4 s).2.1 (rB4 s).2.2
def rB6 (s : List UInt8) := textsFS s (rB5 s).2.1 (rB5 s).2.2
def rB7 (s : List UInt8) := numFS s (rB6 s).2.1 (rB6 s).2.2
def rB8 (s : List UInt8) := manyG (fun a => rdWS s a false) (rB7 s).1.toNat [] (rB7 s).2.1 (rB7 s).2.2
def recS (s : List UInt8) : RecT × Bool := (⟨(rB1 s).1, (rB2 s).1, (rB3 s).1, (rB4 s).1, (rB6 s).1, (rB8 s).1, (rB5 s).1 == 1⟩, (rB8 s).2.2)
section
variable {s : List UInt8}
theorem a1 : (rA1 s).2.1 ≤ s.length := (numFI_ok (Nat.zero_le _)).hi
theorem a2 : (rA2 s).2.1 ≤ s.length := (numFI_ok a1).hi
theorem a3 : (rA3 s).2.1 ≤ s.length := (numFI_ok a2).hi
theorem a4 : (rA4 s).2.1 ≤ s.length := (numFI_ok a3).hi
theorem a5 : (rA5 s).2.1 ≤ s.length := (takeF_ok a4 (by omega)).hi
theorem a6 : (rA6 s).2.1 ≤ s.length := (textsFI_ok a5).hi
theorem a7 : (rA7 s).2.1 ≤ s.length := (numFI_ok a6).hi
theorem b1' : (rB1 s).2.1 ≤ s.length := (numFS_ok (Nat.zero_le _)).hi
theorem b2' : (rB2 s).2.1 ≤ s.length := (numFS_ok b1').hi
theorem b3' : (rB3 s).2.1 ≤ s.length := (numFS_ok b2').hi
theorem b4' : (rB4 s).2.1 ≤ s.length := (numFS_ok b3').hi
theorem b5' : (rB5 s).2.1 ≤ s.length := (oneF_ok b4').hi
theorem b6' : (rB6 s).2.1 ≤ s.length := (textsFS_ok b5').hi
theorem b7' : (rB7 s).2.1 ≤ s.length := (numFS_ok b6').hi
theorem num_next {r t : Int × Nat × Bool} (h : RelG r t) (ht : t.2.1 ≤ s.length) : RelG (numFI s r.2.1 r.2.2) (numFS s t.2.1 t.2.2) := by
  cases hb : t.2.2 with
  | true => rw [h.1, hb]; exact .bad rfl rfl
  | false => rw [h.2 hb, hb]; exact numF_rel
theorem bad_num {r : Int × Nat × Bool} (h : (numFS s r.2.1 r.2.2).2.2 = false) : r.2.2 = false := by
  cases hb : r.2.2 with
  | false => rfl
  | true => rw [hb] at h; cases h
theorem rec_rel : (recI s).2 = (recS s).2 ∧ ((recS s).2 = false → recI s = recS s) := by
  have h1 : RelG (rA1 s) (rB1 s) := numF_rel
  have h2 : RelG (rA2 s) (rB2 s) := num_next h1 b1'
  have h3 : RelG (rA3 s) (rB3 s) := num_next h2 b2'
  have h4 : RelG (rA4 s) (rB4 s) := num_next h3 b3'
  have h5 : (rA5 s).2.2 = (rB5 s).2.2 ∧ ((rB5 s).2.2 = false → (rA5 s).2 = (rB5 s).2 ∧ ((rA5 s).1 == [1]) = ((rB5 s).1 == 1)) := by
    unfold rA5 rB5
    cases hb : (rB4 s).2.2 with
    | true => rw [h4.1, hb]; exact ⟨rfl, fun e => by cases e⟩
    | false =>
      rw [h4.2 hb, hb]
      have := take_one_rel (b := s) (a := (rB4 s).2.1) (f := false) b4'
      exact ⟨congrArg Prod.snd this.1, fun e => ⟨this.1, this.2 e⟩⟩
  have h6 : RelG (rA6 s) (rB6 s) := by
    unfold rA6 rB6
    cases hb : (rB5 s).2.2 with
    | true =>
      rw [h5.1, hb]
      exact .bad (by unfold textsFI numFI; rw [show (true || decide ((0 : Int) > 40)) = true from rfl, manyG_bad]) (by unfold textsFS numFS; rw [show (true || decide ((0 : Int) > 40)) = true from rfl, manyG_bad])
    | false =>
      have e := (h5.2 hb).1
      rw [show (rA5 s).2.1 = (rB5 s).2.1 from congrArg Prod.fst e, h5.1, hb]
      exact textsF_rel b5'
  have h7 : RelG (rA7 s) (rB7 s) := by
    unfold rA7 rB7
    cases hb : (rB6 s).2.2 with
    | true => rw [h6.1, hb]; exact .bad rfl rfl
    | false => rw [h6.2 hb, hb]; exact numF_rel
  have h8 : RelG (rA8 s) (rB8 s) := by
    unfold rA8 rB8
    cases hb : (rB7 s).2.2 with
    | true => rw [h7.1, hb, manyG_bad, manyG_bad]; exact .bad rfl rfl
    | false =>
      rw [h7.2 hb, hb]
      exact manyG_rel (fun a ha => rdW_rel ha) (fun a ha => rdW_ok ha) _ _ _ _ _ _ fun _ => ⟨rfl, rfl, b7'⟩
  refine ⟨h8.1, fun e => ?_⟩
  have e8 : (rB8 s).2.2 = false := e
  have e7 : (rB7 s).2.2 = false := by
    cases hb : (rB7 s).2.2 with
    | false => rfl
    | true => unfold rB8 at e8; rw [hb, manyG_bad] at e8; cases e8
  have e6 : (rB6 s).2.2 = false := by
    cases hb : (rB6 s).2.2 with
    | false => rfl
    | true => unfold rB7 at e7; rw [hb] at e7; cases e7
  have e5 : (rB5 s).2.2 = false := by
    cases hb : (rB5 s).2.2 with
    | false => rfl
    | true => unfold rB6 textsFS numFS at e6; rw [hb, show (true || decide ((0 : Int) > 40)) = true from rfl, manyG_bad] at e6; cases e6
  have e4 : (rB4 s).2.2 = false := by
    cases hb : (rB4 s).2.2 with
    | false => rfl
    | true => unfold rB5 at e5; rw [hb] at e5; cases e5
  have e3 : (rB3 s).2.2 = false := bad_num e4
  have e2 : (rB2 s).2.2 = false := bad_num e3
  have e1 : (rB1 s).2.2 = false := bad_num e2
  unfold recI recS
  rw [h1.2 e1, h2.2 e2, h3.2 e3, h4.2 e4, h6.2 e6, h8.2 e8, (h5.2 e5).2]
end
def zeroR : RecT := ⟨0, 0, 0, 0, [], [], false⟩
def goodR (b : List UInt8) (r : RecT × Bool) : Bool := !r.2 && okRec r.1 && decide (recB r.1 = b)
def outR (b : List UInt8) : RecT × Bool := match (sealF b).2 && goodR b (recS (sealF b).1) with | true => ((recS (sealF b).1).1, true) | false => (zeroR, false)
theorem good_same {b s : List UInt8} : goodR b (recI s) = goodR b (recS s) ∧ (goodR b (recS s) = true → recI s = recS s) := by
  have h := rec_rel (s := s)
  unfold goodR
  cases hb : (recS s).2 with
  | true => rw [h.1, hb]; exact ⟨rfl, fun e => by cases e⟩
  | false => rw [h.2 hb, hb]; exact ⟨rfl, fun _ => rfl⟩
theorem outR_no {b : List UInt8} (h : ((sealF b).2 && goodR b (recS (sealF b).1)) = false) : outR b = (zeroR, false) := by unfold outR; rw [h]
theorem outR_yes {b : List UInt8} (h : ((sealF b).2 && goodR b (recS (sealF b).1)) = true) : outR b = ((recS (sealF b).1).1, true) := by unfold outR; rw [h]
theorem sealF_len {b : List UInt8} (h : (sealF b).2 = true) : (sealF b).1.length ≤ 5997 ∧ b.length ≤ 6000 := by
  unfold sealF at h ⊢
  by_cases hc : 3 ≤ b.length ∧ b.length ≤ 6000 ∧ sealB (b.take (b.length - 3)) = b
  · rw [if_pos hc, List.length_take]; omega
  · rw [if_neg hc] at h; cases h
structure SmallR (r : RecT) : Prop where
  reads : r.Reads.length ≤ 100
  writes : r.Writes.length ≤ 6000
  rl : ∀ x ∈ r.Reads, x.length ≤ 60
  wl : ∀ x ∈ r.Writes, x.Key.length ≤ 60 ∧ x.Val.length ≤ 60
theorem sum_le {α : Type} {w : α → Nat} {n : Nat} : ∀ (l : List α), (∀ x ∈ l, w x ≤ n) → (l.map w).sum ≤ n * l.length
  | [], _ => by simp
  | x :: l, h => by
    have h1 := h x (by simp)
    have h2 := sum_le l (fun y hy => h y (by simp [hy]))
    simp only [List.map_cons, List.sum_cons, List.length_cons, Nat.mul_add]
    omega
theorem SmallR.w {r : RecT} (h : SmallR r) : r.w ≤ 1048576 := by
  have e : r.w = wL List.length r.Reads + wL WriteT.w r.Writes := rfl
  have h1 : wL List.length r.Reads = r.Reads.length + (r.Reads.map List.length).sum := rfl
  have h2 : wL WriteT.w r.Writes = r.Writes.length + (r.Writes.map WriteT.w).sum := rfl
  have h3 := sum_le (w := List.length) (n := 60) r.Reads h.rl
  have h4 := sum_le (w := WriteT.w) (n := 120) r.Writes (fun x hx => by have := h.wl x hx; show x.Key.length + x.Val.length ≤ _; omega)
  have := h.reads
  have := h.writes
  omega
theorem SmallR.ok {r : RecT} (h : SmallR r) : r.ok :=
  ⟨trivial, trivial, trivial, trivial, ⟨by have := h.reads; omega, fun x hx => by have := h.rl x hx; show x.length ≤ _; omega⟩, ⟨by have := h.writes; omega, fun x hx => by have := h.wl x hx; exact ⟨by show x.Key.length ≤ _; omega, by show x.Val.length ≤ _; omega, trivial⟩⟩, trivial⟩
theorem manyG_len {α : Type} {b : List UInt8} {rd : Nat → α × Nat × Bool} (ho : ∀ a, a ≤ b.length → OkA b a (rd a)) (hg : ∀ a, a ≤ b.length → (rd a).2.2 = false → a < (rd a).2.1) : ∀ (k : Nat) (out : List α) (a : Nat) (f : Bool), a ≤ b.length → (f = false → out.length ≤ a) → out.length ≤ a + 1 → (manyG rd k out a f).1.length ≤ (manyG rd k out a f).2.1 + 1
  | 0, out, a, f, ha, h, h1 => h1
  | k + 1, out, a, true, ha, h, h1 => h1
  | k + 1, out, a, false, ha, h, h1 => by
    have o := ho a ha
    have hl := h rfl
    have lo := o.lo
    refine manyG_len ho hg k _ _ _ o.hi (fun e => ?_) ?_
    · have := hg a ha e
      rw [List.length_append]; show out.length + 1 ≤ _; omega
    · rw [List.length_append]; show out.length + 1 ≤ _; omega
theorem rdW_go {b : List UInt8} {a : Nat} (ha : a ≤ b.length) (h : (rdWI b a false).2.2 = false) : a < (rdWI b a false).2.1 := by
  have h1 := textFI_ok (b := b) (f := false) ha
  have h2 := takeF_ok (b := b) (f := (textFI b a false).2.2) (n := 1) h1.hi (by omega)
  have h3 := textFI_ok (b := b) (f := (takeF b (textFI b a false).2.1 (textFI b a false).2.2 1).2.2) h2.hi
  have hk : (textFI b a false).2.2 = false := by
    cases hb : (textFI b a false).2.2 with
    | false => rfl
    | true =>
      have h : (textFI b (takeF b (textFI b a false).2.1 (textFI b a false).2.2 1).2.1 (takeF b (textFI b a false).2.1 (textFI b a false).2.2 1).2.2).2.2 = false := h
      rw [hb] at h
      have : (textFI b (textFI b a false).2.1 true).2.2 = false := h
      rw [textFI_bad] at this
      cases this
  have := textFI_go ha hk
  exact Nat.lt_of_lt_of_le this (Nat.le_trans h2.lo h3.lo)
theorem rdW_small {b : List UInt8} {a : Nat} {f : Bool} (ha : a ≤ b.length) : (rdWI b a f).1.Key.length ≤ 60 ∧ (rdWI b a f).1.Val.length ≤ 60 := by
  have h1 := textFI_ok (b := b) (f := f) ha
  have h2 := takeF_ok (b := b) (f := (textFI b a f).2.2) (n := 1) h1.hi (by omega)
  exact ⟨textFI_len ha, textFI_len h2.hi⟩
theorem textsFI_small {b : List UInt8} {a : Nat} {f : Bool} (ha : a ≤ b.length) : (∀ x ∈ (textsFI b a f).1, x.length ≤ 60) ∧ (textsFI b a f).1.length ≤ 100 := by
  have ok := numFI_ok (b := b) (f := f) ha
  refine ⟨(manyG_all (b := b) (rd := fun a => textFI b a false) (p := fun x => x.length ≤ 60) (fun a ha => textFI_ok ha) (fun a ha => textFI_len ha) _ _ _ _ ok.hi (fun x hx => by cases hx)).1, ?_⟩
  by_cases h : (numFI b a f).1 > 40
  · unfold textsFI
    rw [decide_eq_true h, Bool.or_true, manyG_bad]
    exact Nat.zero_le _
  · have := (manyG_all (b := b) (rd := fun a => textFI b a false) (p := fun x => x.length ≤ 60) (fun a ha => textFI_ok ha) (fun a ha => textFI_len ha) (numFI b a f).1.toNat [] (numFI b a f).2.1 ((numFI b a f).2.2 || decide ((numFI b a f).1 > 40)) ok.hi (fun x hx => by cases hx)).2
    exact Nat.le_trans this (by show 0 + _ ≤ _; omega)
theorem recI_small {s : List UInt8} (hs : s.length ≤ 5997) : SmallR (recI s).1 := by
  have ht := textsFI_small (b := s) (a := (rA5 s).2.1) (f := (rA5 s).2.2) a5
  have hw := manyG_all (b := s) (rd := fun a => rdWI s a false) (p := fun x => x.Key.length ≤ 60 ∧ x.Val.length ≤ 60) (fun a ha => rdW_ok ha) (fun a ha => rdW_small ha) (rA7 s).1.toNat [] (rA7 s).2.1 (rA7 s).2.2 a7 (fun x hx => by cases hx)
  have hl := manyG_len (b := s) (rd := fun a => rdWI s a false) (fun a ha => rdW_ok ha) (fun a ha e => rdW_go ha e) (rA7 s).1.toNat [] (rA7 s).2.1 (rA7 s).2.2 a7 (fun _ => Nat.zero_le _) (Nat.zero_le _)
  have hi := (manyG_ok (b := s) (rd := fun a => rdWI s a false) (fun a ha => rdW_ok ha) (rA7 s).1.toNat [] (rA7 s).2.1 (rA7 s).2.2 a7).hi
  exact ⟨ht.2, by show (manyG _ _ _ _ _).1.length ≤ _; omega, ht.1, hw.1⟩
theorem rA7_nat {s : List UInt8} : (rA7 s).1 = ((rA7 s).1.toNat : Int) := (Int.toNat_of_nonneg (numFI_ok (b := s) (f := (rA6 s).2.2) a6).nn).symm
theorem rec_take {r : RecT} (h : SmallR r) : r.Writes.length ≤ 1048576 ∧ r.Reads.length ≤ 1048576 := ⟨by have := h.writes; omega, by have := h.reads; omega⟩
theorem app_w {out : List WriteT} {x : WriteT} {L : List (List AV)} (h : L = [x.cells]) : out.map WriteT.cells ++ L = (out ++ [x]).map WriteT.cells := by rw [h, List.map_append]; rfl
theorem c_impl_ReadRec (b : List UInt8) (hb : b.length ≤ 1073741824) : PC Tryz.prog false 185 [.str b] (.tup [.agg [.int .i64 (outR b).1.Kind, .int .i64 (outR b).1.Txn, .int .i64 (outR b).1.Time, .int .i64 (outR b).1.Lead, .own 0, .own 1, .bool (outR b).1.Yes], .bool (outR b).2]) [⟨false, 9, 1, (outR b).1.Reads.map strC⟩, ⟨false, 154, 3, (outR b).1.Writes.map WriteT.cells⟩] := by
  cases hs2 : (sealF b).2 with
  | false =>
    have e := outR_no (b := b) (by rw [hs2]; rfl)
    have hc := c_impl_OpenSeal b hb
    rw [hs2] at hc
    rw [e]
    refine pc_at Tryz.func185 rfl (by kernel_rfl) 77 [.cell 2 47, .tmp 3] rfl rfl ?_
    repeat' (conv => whnf); first
 | refine nameB_true ?_
 | refine nameB_false ?_
 | refine splitB_true ?_
 | refine Call0 (hc) rfl rfl ?_
 | refine side_and (side_of (by first | exact ⟨Nat.le_of_ble_eq_true rfl, rfl⟩ | fail)) ?_
 | refine side_and (side_of (by first | (and_intros <;> first | rfl | omega | exact Nat.le_of_ble_eq_true rfl) | fail)) ?_
 | fail
    all_goals
      conv => whnf
      exact OutA_nilB 0 1 9 1 4 rfl rfl rfl (by decide) (OutA_nilB 0 2 154 3 5 rfl rfl rfl (by decide) (OutA_ids rfl rfl rfl ⟨⟨_, _, _, rfl, rfl⟩, ⟨_, _, _, rfl, rfl⟩, trivial⟩ rfl (.inr (by intro o ho; simp only [List.mem_cons, List.not_mem_nil, or_false] at ho; rcases ho with rfl | rfl <;> rfl))))
  | true =>
    have hc := c_impl_OpenSeal b hb
    rw [hs2] at hc
    obtain ⟨hsl, hbl⟩ := sealF_len hs2
    have hg := good_same (b := b) (s := (sealF b).1)
    have hsm := recI_small hsl
    have hor : outR b = match goodR b (recI (sealF b).1) with | true => ((recI (sealF b).1).1, true) | false => (zeroR, false) := by
      unfold outR
      rw [hs2, Bool.true_and, hg.1]
      cases hq : goodR b (recS (sealF b).1) with
      | true => simp only; rw [hg.2 hq]
      | false => rfl
    rw [hor]
    generalize (sealF b).1 = s at *
    refine pc_at Tryz.func185 rfl (by kernel_rfl) 77 [.cell 2 47, .tmp 3] rfl rfl ?_
    repeat' (conv => whnf); first
 | (show Go.Ab.drawA _ _ _ _ _; refine draw_exp (.take 0 (.take 2 (.take 4 (.take 7 (.fork 1 (.fork 3 (.fork 5 (.fork 6 (.fork 8 (.fork 9 (.fork 10 (.fork 11 (.take 12 (.fork 13 (.done) (.stop))) (.stop)) (.stop)) (.stop)) (.stop)) (.fork 8 (.fork 6 (.fork 9 (.fork 10 (.fork 11 (.take 12 (.fork 13 (.done) (.stop))) (.stop)) (.stop)) (.stop)) (.stop)) (.stop))) (.stop)) (.stop)) (.fork 3 (.fork 1 (.fork 5 (.fork 6 (.fork 8 (.fork 9 (.fork 10 (.fork 11 (.take 12 (.fork 13 (.done) (.stop))) (.stop)) (.stop)) (.stop)) (.stop)) (.fork 8 (.fork 6 (.fork 9 (.fork 10 (.fork 11 (.take 12 (.fork 13 (.done) (.stop))) (.stop)) (.stop)) (.stop)) (.stop)) (.stop))) (.stop)) (.fork 5 (.fork 1 (.fork 6 (.fork 8 (.fork 9 (.fork 10 (.fork 11 (.take 12 (.fork 13 (.done) (.stop))) (.stop)) (.stop)) (.stop)) (.stop)) (.fork 8 (.fork 6 (.fork 9 (.fork 10 (.fork 11 (.take 12 (.fork 13 (.done) (.stop))) (.stop)) (.stop)) (.stop)) (.stop)) (.stop))) (.fork 6 (.fork 1 (.fork 8 (.fork 9 (.fork 10 (.fork 11 (.take 12 (.fork 13 (.done) (.stop))) (.stop)) (.stop)) (.stop)) (.stop)) (.fork 8 (.fork 1 (.fork 9 (.fork 10 (.fork 11 (.take 12 (.fork 13 (.done) (.stop))) (.stop)) (.stop)) (.stop)) (.fork 9 (.fork 1 (.fork 10 (.fork 11 (.take 12 (.fork 13 (.done) (.stop))) (.stop)) (.stop)) (.fork 10 (.fork 1 (.fork 11 (.take 12 (.fork 13 (.done) (.stop))) (.stop)) (.stop)) (.stop))) (.stop))) (.stop))) (.fork 8 (.fork 1 (.fork 6 (.fork 9 (.fork 10 (.fork 11 (.take 12 (.fork 13 (.done) (.stop))) (.stop)) (.stop)) (.stop)) (.stop)) (.fork 6 (.fork 1 (.fork 9 (.fork 10 (.fork 11 (.take 12 (.fork 13 (.done) (.stop))) (.stop)) (.stop)) (.stop)) (.fork 9 (.fork 1 (.fork 10 (.fork 11 (.take 12 (.fork 13 (.done) (.stop))) (.stop)) (.stop)) (.fork 10 (.fork 1 (.fork 11 (.take 12 (.fork 13 (.done) (.stop))) (.stop)) (.stop)) (.stop))) (.stop))) (.stop))) (.stop)))) (.stop))) (.stop))))))) (by kernel_rfl) (by kernel_rfl) (by kernel_rfl) ?_)
 | refine nameB_self (b := (rA5 s).1 == [1]) ?_
 | refine nameB_self (b := (takeF s (textFI s c g).2.1 (textFI s c g).2.2 1).1 == [1]) ?_
 | refine side_and (side_of (one_lenC rfl rfl)) ?_
 | refine side_and (side_of (by first | (and_intros <;> first | exact Nat.le_of_ble_eq_true rfl | rfl | (intro e; exact absurd (AV.own.inj e) (by decide)) | (intro e; exact AV.noConfusion e)) | fail)) ?_
 | refine side_and (side_of (app_boundC (L := out.map WriteT.cells) rfl (by (try simp only [List.length_map, List.length_append, List.length_take, List.length_set, List.length_drop]); omega) (Nat.le_of_ble_eq_true rfl))) ?_
 | refine nameB_true ?_
 | refine nameB_false ?_
 | refine nameB_yes (by assumption) ?_
 | (refine nameB_dec (fun h => ?_) (fun h => ?_) <;> try simp only [lensB] at h)
 | (refine nameB_cases (fun h => ?_) (fun h => ?_) <;> try simp only [nmL, lensB] at h)
 | refine splitB_true ?_
 | refine splitB_false ?_
 | refine both_intro ?_ ?_
 | exact True.intro
 | ((refine Loop_nilB 20704 1 154 3 5 rfl rfl rfl (by decide) ?_; refine Loop_at [0, 2, 6, 7] [0, 20672] (Nat × List WriteT × Nat × Bool) (fun j => match j with | (k, out, c, g) => manyG (fun a => rdWI s a false) k out c g = rA8 s ∧ k ≤ 1000000000 ∧ c ≤ s.length ∧ out.length ≤ c + 1 ∧ (g = false → out.length ≤ c)) (fun j => match j with | (k, out, c, g) => [(8, .int .i64 (k))]) (fun j => match j with | (k, out, c, g) => [(16416, ⟨true, 209, 3, [[.str s, .int .i64 (c : Int), .bool g]]⟩), (20704, ⟨true, 47, 7, [[.int .i64 (rA1 s).1, .int .i64 (rA2 s).1, .int .i64 (rA3 s).1, .int .i64 (rA4 s).1, .own 20672, .own 1, .bool ((rA5 s).1 == [1])]]⟩), (1, ⟨false, 154, 3, out.map WriteT.cells⟩)]) (fun j => match j with | (k, out, c, g) => k) ((rA7 s).1.toNat, [], (rA7 s).2.1, (rA7 s).2.2) ⟨by first | first | rfl | exact congrArg (AV.int .i64) rA7_nat | exact congrArg (AV.int .i64) ((i64_wrap (by omega) (by omega)).trans (by omega)) | rfl | fail, trivial⟩ ⟨by first | rfl | first | rfl | exact congrArg (fun e => some (AObj.mk _ _ _ e)) (app_w rfl) | fail | fail, by first | rfl | first | rfl | exact congrArg (fun e => some (AObj.mk _ _ _ e)) (app_w rfl) | fail | fail, by first | rfl | first | rfl | exact congrArg (fun e => some (AObj.mk _ _ _ e)) (app_w rfl) | fail | fail, trivial⟩ (by (try dsimp only); first | (exact ⟨rfl, by have := (numFI_ok (b := s) (f := (rA6 s).2.2) a6).le; show (numFI _ _ _).1.toNat ≤ _; omega, a7, Nat.zero_le _, fun _ => Nat.zero_le _⟩) | fail) ?_; (conv => whnf); refine side_and (side_of (by first | exact fun ⟨k, out, c, g⟩ => rfl | exact fun ⟨k, out, c, g⟩ => by simp [headOk, closedE, closedO, closedL, AV.closed, hcap.closed, hasId, AObj.box, BK.ofB])) ?_; rintro ⟨k, out, c, g⟩ hT; try dsimp only at hT))
 | (refine Again_of (k - 1, out ++ [(rdWI s c g).1], (rdWI s c g).2.1, (rdWI s c g).2.2) ⟨by first | first | rfl | exact congrArg (AV.int .i64) rA7_nat | exact congrArg (AV.int .i64) ((i64_wrap (by omega) (by omega)).trans (by omega)) | rfl | fail, trivial⟩ ⟨by first | rfl | first | rfl | exact congrArg (fun e => some (AObj.mk _ _ _ e)) (app_w rfl) | fail | fail, by first | rfl | first | rfl | exact congrArg (fun e => some (AObj.mk _ _ _ e)) (app_w rfl) | fail | fail, by first | rfl | first | rfl | exact congrArg (fun e => some (AObj.mk _ _ _ e)) (app_w rfl) | fail | fail, trivial⟩ (by first | (and_intros <;> first | rfl | trivial) | fail) (by first | (and_intros <;> first | rfl | trivial) | fail) rfl rfl rfl (by (try dsimp only); first | ((have hg' : g = false := (by assumption); subst hg'; have ho := rdW_ok (b := s) (f := false) hT.2.2.1; have hl := hT.2.2.2.2 rfl; have lo := ho.lo; exact ⟨manyG_go hT.1 (by omega), by omega, ho.hi, by rw [List.length_append]; show out.length + 1 ≤ _; omega, fun e => by have := rdW_go hT.2.2.1 e; rw [List.length_append]; show out.length + 1 ≤ _; omega⟩)) | fail) (show _ < _ by (try dsimp only); omega))
 | refine Call0 (hc) rfl rfl ?_
 | refine CallB (c_impl_num s 0 false (Nat.zero_le _) (by omega)) rfl rfl rfl rfl rfl rfl ?_
 | refine CallB (c_impl_num s (rA1 s).2.1 (rA1 s).2.2 a1 (by omega)) rfl rfl rfl rfl rfl rfl ?_
 | refine CallB (c_impl_num s (rA2 s).2.1 (rA2 s).2.2 a2 (by omega)) rfl rfl rfl rfl rfl rfl ?_
 | refine CallB (c_impl_num s (rA3 s).2.1 (rA3 s).2.2 a3 (by omega)) rfl rfl rfl rfl rfl rfl ?_
 | refine CallB (c_impl_take s (rA4 s).2.1 (rA4 s).2.2 1 a4 (by omega) (by omega) (by omega)) rfl rfl rfl rfl rfl rfl ?_
 | refine CallB (c_impl_texts s (rA5 s).2.1 (rA5 s).2.2 a5 (by omega)) rfl rfl rfl rfl rfl rfl ?_
 | refine CallB (c_impl_num s (rA6 s).2.1 (rA6 s).2.2 a6 (by omega)) rfl rfl rfl rfl rfl rfl ?_
 | refine CallB (c_impl_text s c g hT.2.2.1 (by omega)) rfl rfl rfl rfl rfl rfl ?_
 | refine CallB (c_impl_take s (textFI s c g).2.1 (textFI s c g).2.2 1 (textFI_ok hT.2.2.1).hi (by omega) (by omega) (by omega)) rfl rfl rfl rfl rfl rfl ?_
 | refine CallB (c_impl_text s (takeF s (textFI s c g).2.1 (textFI s c g).2.2 1).2.1 (takeF s (textFI s c g).2.1 (textFI s c g).2.2 1).2.2 (takeF_ok (textFI_ok hT.2.2.1).hi (by omega)).hi (by omega)) rfl rfl rfl rfl rfl rfl ?_
 | (have e8 := manyG_end hT.1 (by first | (left; omega) | (right; assumption)); have eR : recI s = ((⟨(rA1 s).1, (rA2 s).1, (rA3 s).1, (rA4 s).1, (rA6 s).1, out, (rA5 s).1 == [1]⟩ : RecT), g) := (by unfold recI; rw [← e8]); have hsm2 : SmallR (⟨(rA1 s).1, (rA2 s).1, (rA3 s).1, (rA4 s).1, (rA6 s).1, out, (rA5 s).1 == [1]⟩ : RecT) := (by have h9 := hsm; rw [eR] at h9; exact h9); refine Call0 (c_impl_GoodRec (⟨(rA1 s).1, (rA2 s).1, (rA3 s).1, (rA4 s).1, (rA6 s).1, out, (rA5 s).1 == [1]⟩ : RecT) hsm2.ok (rec_take hsm2).1 (rec_take hsm2).2) rfl rfl ?_)
 | (have e8 := manyG_end hT.1 (by first | (left; omega) | (right; assumption)); have eR : recI s = ((⟨(rA1 s).1, (rA2 s).1, (rA3 s).1, (rA4 s).1, (rA6 s).1, out, (rA5 s).1 == [1]⟩ : RecT), g) := (by unfold recI; rw [← e8]); have hsm2 : SmallR (⟨(rA1 s).1, (rA2 s).1, (rA3 s).1, (rA4 s).1, (rA6 s).1, out, (rA5 s).1 == [1]⟩ : RecT) := (by have h9 := hsm; rw [eR] at h9; exact h9); refine Call0 (c_impl_recBytes (⟨(rA1 s).1, (rA2 s).1, (rA3 s).1, (rA4 s).1, (rA6 s).1, out, (rA5 s).1 == [1]⟩ : RecT) (by assumption) hsm2.w) rfl rfl ?_)
 | fail
    all_goals
      conv => whnf
      have e8 := manyG_end hT.1 (by first | (left; omega) | (right; assumption)); have eR : recI s = ((⟨(rA1 s).1, (rA2 s).1, (rA3 s).1, (rA4 s).1, (rA6 s).1, out, (rA5 s).1 == [1]⟩ : RecT), g) := (by unfold recI; rw [← e8])
      first
      | (have eG : goodR b (recI s) = false := (by rw [eR]; unfold goodR; first | (simp [*]; done) | (simp_all; done))
         rw [eG]
         exact OutA_nilB 0 2 9 1 4 rfl rfl rfl (by decide) (OutA_nilB 0 3 154 3 5 rfl rfl rfl (by decide) (OutA_ids rfl rfl rfl ⟨⟨_, _, _, rfl, rfl⟩, ⟨_, _, _, rfl, rfl⟩, trivial⟩ rfl (.inr (by intro o ho; simp only [List.mem_cons, List.not_mem_nil, or_false] at ho; rcases ho with rfl | rfl <;> rfl)))))
      | (have eG : goodR b (recI s) = true := (by rw [eR]; unfold goodR; first | (simp [*]; done) | (simp_all; done))
         rw [eG, eR]
         exact OutA_ids rfl rfl rfl ⟨⟨_, _, _, rfl, rfl⟩, ⟨_, _, _, rfl, rfl⟩, trivial⟩ rfl (.inr (by intro o ho; simp only [List.mem_cons, List.not_mem_nil, or_false] at ho; rcases ho with rfl | rfl <;> exact flat_map (fun _ => rfl) _)))
theorem rdWS_go {b : List UInt8} {a : Nat} (ha : a ≤ b.length) (h : (rdWS b a false).2.2 = false) : a < (rdWS b a false).2.1 := by
  have r := rdW_rel (b := b) (a := a) (f := false) ha
  rw [← r.2 h]
  exact rdW_go ha (r.1.trans h)
theorem rB7_nat {s : List UInt8} : (rB7 s).1 = ((rB7 s).1.toNat : Int) := (Int.toNat_of_nonneg (numFS_ok (b := s) (f := (rB6 s).2.2) b6').nn).symm
theorem recS_small {s : List UInt8} (hs : s.length ≤ 5997) (h : (recS s).2 = false) : SmallR (recS s).1 := by
  rw [← (rec_rel (s := s)).2 h]
  exact recI_small hs
theorem c_spec_ReadRec (b : List UInt8) (hb : b.length ≤ 1073741824) : PC Tryz.prog false 144 [.str b] (.tup [.agg [.int .i64 (outR b).1.Kind, .int .i64 (outR b).1.Txn, .int .i64 (outR b).1.Time, .int .i64 (outR b).1.Lead, .own 0, .own 1, .bool (outR b).1.Yes], .bool (outR b).2]) [⟨false, 9, 1, (outR b).1.Reads.map strC⟩, ⟨false, 154, 3, (outR b).1.Writes.map WriteT.cells⟩] := by
  cases hs2 : (sealF b).2 with
  | false =>
    have e := outR_no (b := b) (by rw [hs2]; rfl)
    have hc := c_spec_OpenSeal b hb
    rw [hs2] at hc
    rw [e]
    refine pc_at Tryz.func144 rfl (by kernel_rfl) 83 [.cell 2 47, .tmp 3] rfl rfl ?_
    repeat' (conv => whnf); first
 | refine nameB_true ?_
 | refine nameB_false ?_
 | refine splitB_true ?_
 | refine Call0 (hc) rfl rfl ?_
 | refine side_and (side_of (by first | exact ⟨Nat.le_of_ble_eq_true rfl, rfl⟩ | fail)) ?_
 | refine side_and (side_of (by first | (and_intros <;> first | rfl | omega | exact Nat.le_of_ble_eq_true rfl) | fail)) ?_
 | fail
    all_goals
      conv => whnf
      exact OutA_nilB 0 1 9 1 4 rfl rfl rfl (by decide) (OutA_nilB 0 2 154 3 5 rfl rfl rfl (by decide) (OutA_ids rfl rfl rfl ⟨⟨_, _, _, rfl, rfl⟩, ⟨_, _, _, rfl, rfl⟩, trivial⟩ rfl (.inr (by intro o ho; simp only [List.mem_cons, List.not_mem_nil, or_false] at ho; rcases ho with rfl | rfl <;> rfl))))
  | true =>
    have hc := c_spec_OpenSeal b hb
    rw [hs2] at hc
    obtain ⟨hsl, hbl⟩ := sealF_len hs2
    have hsm := fun h => recS_small hsl h
    have hor : outR b = match goodR b (recS (sealF b).1) with | true => ((recS (sealF b).1).1, true) | false => (zeroR, false) := by
      unfold outR
      rw [hs2, Bool.true_and]
      try (cases goodR b (recS (sealF b).1) <;> rfl)
    rw [hor]
    generalize (sealF b).1 = s at *
    refine pc_at Tryz.func144 rfl (by kernel_rfl) 83 [.cell 2 47, .tmp 3] rfl rfl ?_
    repeat' (conv => whnf); first
 | refine nameB_self (b := (rB5 s).1 == 1) ?_
 | refine nameB_self (b := (oneF s (textFS s c g).2.1 (textFS s c g).2.2).1 == 1) ?_
 | refine side_and (side_of (one_lenC rfl rfl)) ?_
 | refine side_and (side_of (by first | (and_intros <;> first | exact Nat.le_of_ble_eq_true rfl | rfl | (intro e; exact absurd (AV.own.inj e) (by decide)) | (intro e; exact AV.noConfusion e)) | fail)) ?_
 | refine side_and (side_of (app_boundC (L := out.map WriteT.cells) rfl (by (try simp only [List.length_map, List.length_append, List.length_take, List.length_set, List.length_drop]); omega) (Nat.le_of_ble_eq_true rfl))) ?_
 | refine nameB_true ?_
 | refine nameB_false ?_
 | refine nameB_yes (by assumption) ?_
 | (refine nameB_dec (fun h => ?_) (fun h => ?_) <;> try simp only [lensB] at h)
 | (refine nameB_cases (fun h => ?_) (fun h => ?_) <;> try simp only [nmL, lensB] at h)
 | refine splitB_true ?_
 | refine splitB_false ?_
 | ((refine Loop_nilB 20624 1 154 3 5 rfl rfl rfl (by decide) ?_; refine Loop_at [0, 2, 6, 7] [0, 28688] (Nat × List WriteT × Nat × Bool) (fun j => match j with | (k, out, c, g) => manyG (fun a => rdWS s a false) k out c g = rB8 s ∧ k ≤ 1000000000 ∧ c ≤ s.length ∧ out.length ≤ c + 1 ∧ (g = false → out.length ≤ c)) (fun j => match j with | (k, out, c, g) => [(8, .int .i64 (k))]) (fun j => match j with | (k, out, c, g) => [(16416, ⟨true, 196, 3, [[.str s, .int .i64 (c : Int), .bool g]]⟩), (20624, ⟨true, 47, 7, [[.int .i64 (rB1 s).1, .int .i64 (rB2 s).1, .int .i64 (rB3 s).1, .int .i64 (rB4 s).1, .own 28688, .own 1, .bool ((rB5 s).1 == 1)]]⟩), (1, ⟨false, 154, 3, out.map WriteT.cells⟩)]) (fun j => match j with | (k, out, c, g) => k) ((rB7 s).1.toNat, [], (rB7 s).2.1, (rB7 s).2.2) ⟨by first | first | rfl | exact congrArg (AV.int .i64) rB7_nat | exact congrArg (AV.int .i64) ((i64_wrap (by omega) (by omega)).trans (by omega)) | rfl | fail, trivial⟩ ⟨by first | rfl | first | rfl | exact congrArg (fun e => some (AObj.mk _ _ _ e)) (app_w rfl) | fail | fail, by first | rfl | first | rfl | exact congrArg (fun e => some (AObj.mk _ _ _ e)) (app_w rfl) | fail | fail, by first | rfl | first | rfl | exact congrArg (fun e => some (AObj.mk _ _ _ e)) (app_w rfl) | fail | fail, trivial⟩ (by (try dsimp only); first | (exact ⟨rfl, by have := (numFS_ok (b := s) (f := (rB6 s).2.2) b6').le; show (numFS _ _ _).1.toNat ≤ _; omega, b7', Nat.zero_le _, fun _ => Nat.zero_le _⟩) | fail) ?_; (conv => whnf); refine side_and (side_of (by first | exact fun ⟨k, out, c, g⟩ => rfl | exact fun ⟨k, out, c, g⟩ => by simp [headOk, closedE, closedO, closedL, AV.closed, hcap.closed, hasId, AObj.box, BK.ofB])) ?_; rintro ⟨k, out, c, g⟩ hT; try dsimp only at hT))
 | (refine Again_of (k - 1, out ++ [(rdWS s c g).1], (rdWS s c g).2.1, (rdWS s c g).2.2) ⟨by first | first | rfl | exact congrArg (AV.int .i64) rB7_nat | exact congrArg (AV.int .i64) ((i64_wrap (by omega) (by omega)).trans (by omega)) | rfl | fail, trivial⟩ ⟨by first | rfl | first | rfl | exact congrArg (fun e => some (AObj.mk _ _ _ e)) (app_w rfl) | fail | fail, by first | rfl | first | rfl | exact congrArg (fun e => some (AObj.mk _ _ _ e)) (app_w rfl) | fail | fail, by first | rfl | first | rfl | exact congrArg (fun e => some (AObj.mk _ _ _ e)) (app_w rfl) | fail | fail, trivial⟩ (by first | (and_intros <;> first | rfl | trivial) | fail) (by first | (and_intros <;> first | rfl | trivial) | fail) rfl rfl rfl (by (try dsimp only); first | ((have hg' : g = false := (by assumption); subst hg'; have ho := rdWS_ok (b := s) (f := false) hT.2.2.1; have hl := hT.2.2.2.2 rfl; have lo := ho.lo; exact ⟨manyG_go hT.1 (by omega), by omega, ho.hi, by rw [List.length_append]; show out.length + 1 ≤ _; omega, fun e => by have := rdWS_go hT.2.2.1 e; rw [List.length_append]; show out.length + 1 ≤ _; omega⟩)) | fail) (show _ < _ by (try dsimp only); omega))
 | refine Call0 (hc) rfl rfl ?_
 | refine CallB (c_spec_num s 0 false (Nat.zero_le _) (by omega)) rfl rfl rfl rfl rfl rfl ?_
 | refine CallB (c_spec_num s (rB1 s).2.1 (rB1 s).2.2 b1' (by omega)) rfl rfl rfl rfl rfl rfl ?_
 | refine CallB (c_spec_num s (rB2 s).2.1 (rB2 s).2.2 b2' (by omega)) rfl rfl rfl rfl rfl rfl ?_
 | refine CallB (c_spec_num s (rB3 s).2.1 (rB3 s).2.2 b3' (by omega)) rfl rfl rfl rfl rfl rfl ?_
 | refine CallB (c_spec_one s (rB4 s).2.1 (rB4 s).2.2 b4' (by omega)) rfl rfl rfl rfl rfl rfl ?_
 | refine CallB (c_spec_texts s (rB5 s).2.1 (rB5 s).2.2 b5' (by omega)) rfl rfl rfl rfl rfl rfl ?_
 | refine CallB (c_spec_num s (rB6 s).2.1 (rB6 s).2.2 b6' (by omega)) rfl rfl rfl rfl rfl rfl ?_
 | refine CallB (c_spec_text s c g hT.2.2.1 (by omega)) rfl rfl rfl rfl rfl rfl ?_
 | refine CallB (c_spec_one s (textFS s c g).2.1 (textFS s c g).2.2 (textFS_ok hT.2.2.1).hi (by omega)) rfl rfl rfl rfl rfl rfl ?_
 | refine CallB (c_spec_text s (oneF s (textFS s c g).2.1 (textFS s c g).2.2).2.1 (oneF s (textFS s c g).2.1 (textFS s c g).2.2).2.2 (oneF_ok (textFS_ok hT.2.2.1).hi).hi (by omega)) rfl rfl rfl rfl rfl rfl ?_
 | (have e8 := manyG_end hT.1 (by first | (left; omega) | (right; assumption)); have eR : recS s = ((⟨(rB1 s).1, (rB2 s).1, (rB3 s).1, (rB4 s).1, (rB6 s).1, out, (rB5 s).1 == 1⟩ : RecT), g) := (by unfold recS; rw [← e8]); have hsm2 : SmallR (⟨(rB1 s).1, (rB2 s).1, (rB3 s).1, (rB4 s).1, (rB6 s).1, out, (rB5 s).1 == 1⟩ : RecT) := (by have h9 := hsm (by rw [eR]; assumption); rw [eR] at h9; exact h9); refine Call0 (c_spec_l4Good (⟨(rB1 s).1, (rB2 s).1, (rB3 s).1, (rB4 s).1, (rB6 s).1, out, (rB5 s).1 == 1⟩ : RecT) hsm2.ok (rec_take hsm2).1 (rec_take hsm2).2) rfl rfl ?_)
 | (have e8 := manyG_end hT.1 (by first | (left; omega) | (right; assumption)); have eR : recS s = ((⟨(rB1 s).1, (rB2 s).1, (rB3 s).1, (rB4 s).1, (rB6 s).1, out, (rB5 s).1 == 1⟩ : RecT), g) := (by unfold recS; rw [← e8]); have hsm2 : SmallR (⟨(rB1 s).1, (rB2 s).1, (rB3 s).1, (rB4 s).1, (rB6 s).1, out, (rB5 s).1 == 1⟩ : RecT) := (by have h9 := hsm (by rw [eR]; assumption); rw [eR] at h9; exact h9); refine Call0 (c_spec_l4Bytes (⟨(rB1 s).1, (rB2 s).1, (rB3 s).1, (rB4 s).1, (rB6 s).1, out, (rB5 s).1 == 1⟩ : RecT) (by assumption) hsm2.w) rfl rfl ?_)
 | fail
    all_goals
      conv => whnf
      have e8 := manyG_end hT.1 (by first | (left; omega) | (right; assumption)); have eR : recS s = ((⟨(rB1 s).1, (rB2 s).1, (rB3 s).1, (rB4 s).1, (rB6 s).1, out, (rB5 s).1 == 1⟩ : RecT), g) := (by unfold recS; rw [← e8])
      first
      | (have eG : goodR b (recS s) = false := (by rw [eR]; unfold goodR; first | (simp [*]; done) | (simp_all; done))
         rw [eG]
         exact OutA_nilB 0 2 9 1 4 rfl rfl rfl (by decide) (OutA_nilB 0 3 154 3 5 rfl rfl rfl (by decide) (OutA_ids rfl rfl rfl ⟨⟨_, _, _, rfl, rfl⟩, ⟨_, _, _, rfl, rfl⟩, trivial⟩ rfl (.inr (by intro o ho; simp only [List.mem_cons, List.not_mem_nil, or_false] at ho; rcases ho with rfl | rfl <;> rfl)))))
      | (have eG : goodR b (recS s) = true := (by rw [eR]; unfold goodR; first | (simp [*]; done) | (simp_all; done))
         rw [eG, eR]
         exact OutA_ids rfl rfl rfl ⟨⟨_, _, _, rfl, rfl⟩, ⟨_, _, _, rfl, rfl⟩, trivial⟩ rfl (.inr (by intro o ho; simp only [List.mem_cons, List.not_mem_nil, or_false] at ho; rcases ho with rfl | rfl <;> exact flat_map (fun _ => rfl) _)))
theorem numB_len5 : ∀ (m j : Nat) (n : Int), j + m = 4 → 0 ≤ n → n ≤ bnd9 j → (numB n).length ≤ m + 1
  | m, j, n, hj, h0, h => by
    by_cases hn : n ≥ 128
    · have hb := bnd9_next h hn
      have ht := tdiv_128 hn
      cases m with
      | zero => omega
      | succ m =>
        rw [numB_ge hn, List.length_cons]
        have := numB_len5 m (j + 1) (n.tdiv 128) (by omega) ht.1 hb.1
        omega
    · rw [numB_lt hn]; show 1 ≤ _; omega
theorem numB_five {n : Int} (h0 : 0 ≤ n) (h : n ≤ 1000000000) : (numB n).length ≤ 5 := numB_len5 4 0 n rfl h0 h
theorem flat_len {α : Type} {f : α → List UInt8} {n : Nat} : ∀ (l : List α), (∀ x ∈ l, (f x).length ≤ n) → (l.map f).flatten.length ≤ n * l.length
  | [], _ => by simp
  | x :: l, h => by
    have h1 := h x (by simp)
    have h2 := flat_len l (fun y hy => h y (by simp [hy]))
    simp only [List.map_cons, List.flatten_cons, List.length_append, List.length_cons, Nat.mul_add]
    omega
theorem textB_small {s : List UInt8} (h : s.length ≤ 60) : (textB s).length ≤ 65 := by
  have := numB_five (n := (s.length : Nat)) (by omega) (by omega)
  unfold textB
  rw [List.length_append]
  omega
theorem recB_small {r : RecT} (h : SmallR r) (hg : okRec r = true) : (recB r).length ≤ 5900 := by
  obtain ⟨⟨k0, k1⟩, ⟨t0, t1⟩, ⟨m0, m1⟩, ⟨l0, l1⟩⟩ := rec_nums hg
  have hn : r.Writes.length ≤ 8 ∧ r.Reads.length ≤ 8 := by
    unfold okRec at hg
    split at hg
    · simp only [Bool.and_eq_true, decide_eq_true_eq] at hg
      omega
    · simp only [Bool.and_eq_true, decide_eq_true_eq] at hg
      omega
  have a1 := numB_five (n := r.Kind) (by omega) (by omega)
  have a2 := numB_five (n := r.Txn) (by omega) (by omega)
  have a3 := numB_five (n := r.Time) (by omega) (by omega)
  have a4 := numB_five (n := r.Lead) (by omega) (by omega)
  have a5 := flagB_len r.Yes
  have a6 := numB_five (n := (r.Reads.length : Nat)) (by omega) (by omega)
  have a7 := numB_five (n := (r.Writes.length : Nat)) (by omega) (by omega)
  have a8 : (textsG r.Reads).length ≤ 65 * r.Reads.length := flat_len (f := textB) r.Reads (fun x hx => textB_small (h.rl x hx))
  have a9 : (wG r.Writes).length ≤ 131 * r.Writes.length := flat_len (f := wB) r.Writes (fun x hx => by
    have h1 := textB_small (h.wl x hx).1
    have h2 := textB_small (h.wl x hx).2
    unfold wB
    rw [List.length_append, List.length_append, flagB_len]
    omega)
  unfold recB sealB threeB recH textsB
  simp only [List.length_append, List.length_cons, List.length_nil]
  omega
theorem outR_len {b : List UInt8} (h : (outR b).2 = true) : b.length ≤ 5900 ∧ SmallR (outR b).1 := by
  cases hc : ((sealF b).2 && goodR b (recS (sealF b).1)) with
  | false => rw [outR_no hc] at h; cases h
  | true =>
    rw [outR_yes hc]
    simp only [Bool.and_eq_true] at hc
    obtain ⟨h1, h2⟩ := hc
    have h3 := h2
    unfold goodR at h3
    simp only [Bool.and_eq_true, Bool.not_eq_true', decide_eq_true_eq] at h3
    have hs := recS_small (sealF_len h1).1 h3.1.1
    have := recB_small hs h3.1.2
    rw [h3.2] at this
    exact ⟨this, hs⟩
theorem zeroR_small : SmallR zeroR := ⟨Nat.zero_le _, Nat.zero_le _, fun x hx => (by cases hx), fun x hx => (by cases hx)⟩
theorem outR_small {b : List UInt8} : SmallR (outR b).1 := by
  cases h : (outR b).2 with
  | true => exact (outR_len h).2
  | false =>
    cases hc : ((sealF b).2 && goodR b (recS (sealF b).1)) with
    | false => rw [outR_no hc]; exact zeroR_small
    | true => rw [outR_yes hc] at h; cases h
theorem numL_hi {b : List UInt8} {s : Nat} : ∀ (f : Nat) (n q : Int) (a : Nat), (numL b s f n q a).2.1 ≤ a + f
  | 0, n, q, a => Nat.le_refl _
  | f + 1, n, q, a => by
    unfold numL
    cases hx : b[a]? with
    | none => show a ≤ _; omega
    | some x =>
      simp only
      split
      · show a + 1 ≤ _; omega
      · split
        · unfold finI
          split
          · show a + 1 ≤ _; omega
          · show a + 1 ≤ _; omega
        · have := numL_hi (b := b) (s := s) f (n + ((x.toNat % 128 : Nat) : Int) * q) (q * 128) (a + 1)
          omega
def zeroE : EntryT := ⟨0, zeroR⟩
def okE (b : List UInt8) : Bool := decide (b.length ≤ 6000) && !(numFS b 0 false).2.2 && inB 1 (numFS b 0 false).1 200 && (outR (b.drop (numFS b 0 false).2.1)).2
def outE (b : List UInt8) : EntryT := match okE b with | true => ⟨(numFS b 0 false).1, (outR (b.drop (numFS b 0 false).2.1)).1⟩ | false => zeroE
theorem outE_yes {b : List UInt8} (h : okE b = true) : outE b = ⟨(numFS b 0 false).1, (outR (b.drop (numFS b 0 false).2.1)).1⟩ := by unfold outE; rw [h]
theorem outE_no {b : List UInt8} (h : okE b = false) : outE b = zeroE := by unfold outE; rw [h]
theorem num0_rel {b : List UInt8} : RelG (numFI b 0 false) (numFS b 0 false) := numF_rel
theorem okE_I {b : List UInt8} (h : (numFI b 0 false).2.2 = false) (h2 : inB 1 (numFI b 0 false).1 200 = true) : okE b = (outR (b.drop (numFI b 0 false).2.1)).2 := by
  have e := num0_rel (b := b)
  have hs : (numFS b 0 false).2.2 = false := e.1.symm.trans h
  have e2 := e.2 hs
  unfold okE
  rw [← e2, h, h2]
  cases hr : (outR (b.drop (numFI b 0 false).2.1)).2 with
  | false => rw [Bool.and_false]
  | true =>
    have hl := (outR_len hr).1
    rw [List.length_drop] at hl
    have hh : (numFI b 0 false).2.1 ≤ 0 + 6 := numL_hi 6 0 1 0
    rw [decide_eq_true (by omega)]
    rfl
theorem outE_I {b : List UInt8} (h : (numFI b 0 false).2.2 = false) (h2 : inB 1 (numFI b 0 false).1 200 = true) (h3 : (outR (b.drop (numFI b 0 false).2.1)).2 = true) : outE b = ⟨(numFI b 0 false).1, (outR (b.drop (numFI b 0 false).2.1)).1⟩ := by
  have e := num0_rel (b := b)
  have hs : (numFS b 0 false).2.2 = false := e.1.symm.trans h
  rw [outE_yes ((okE_I h h2).trans h3), ← e.2 hs]
theorem okE_bad {b : List UInt8} (h : (numFI b 0 false).2.2 = true) : okE b = false := by
  have hs : (numFS b 0 false).2.2 = true := num0_rel.1.symm.trans h
  unfold okE
  rw [hs]
  simp
theorem okE_in {b : List UInt8} (h : (numFI b 0 false).2.2 = false) (h2 : inB 1 (numFI b 0 false).1 200 = false) : okE b = false := by
  have e := num0_rel (b := b)
  have hs : (numFS b 0 false).2.2 = false := e.1.symm.trans h
  unfold okE
  rw [← e.2 hs, h2]
  simp
theorem rest_eq {b : List UInt8} {a : Nat} : List.drop ((a : Nat) : Int).toNat (List.take ((b.length : Nat) : Int).toNat b) = b.drop a := by
  rw [Int.toNat_natCast, Int.toNat_natCast, List.take_length]
theorem c_impl_ReadEntry (b : List UInt8) (hb : b.length ≤ 1073741824) : PC Tryz.prog false 148 [.str b] (.tup [.agg [.int .i64 (outE b).Term, .int .i64 (outE b).Rec.Kind, .int .i64 (outE b).Rec.Txn, .int .i64 (outE b).Rec.Time, .int .i64 (outE b).Rec.Lead, .own 0, .own 1, .bool (outE b).Rec.Yes], .bool (okE b)]) [⟨false, 9, 1, (outE b).Rec.Reads.map strC⟩, ⟨false, 154, 3, (outE b).Rec.Writes.map WriteT.cells⟩] := by
  have ok := numFI_ok (b := b) (f := false) (Nat.zero_le _)
  have hi := ok.hi
  have hrr := c_impl_ReadRec (b.drop (numFI b 0 false).2.1) (by rw [List.length_drop]; omega)
  refine pc_at Tryz.func148 rfl (by kernel_rfl) 39 [.cell 2 124, .tmp 3] rfl rfl ?_
  repeat' (conv => whnf); first
 | refine nameB_true ?_
 | refine nameB_false ?_
 | (refine nameB_cases (fun h => ?_) (fun h => ?_) <;> try simp only [nmL, lensB] at h)
 | refine splitB_true ?_
 | refine splitB_false ?_
 | refine CallB (c_impl_num b 0 false (Nat.zero_le _) hb) rfl rfl rfl rfl rfl rfl ?_
 | refine Call0 (c_impl_within ..) rfl rfl ?_
 | refine CallF hrr (congrArg (fun l => [AV.str l]) (rest_eq (b := b) (a := (numFI b 0 false).2.1))) rfl rfl (Nat.le_of_ble_eq_true rfl) ?_
 | refine side_and (side_of (by first | exact ⟨Nat.le_of_ble_eq_true rfl, rfl⟩ | fail)) ?_
 | refine side_and (side_of (by first | exact Nat.le_of_ble_eq_true rfl | exact rfl | omega | fail)) ?_
 | refine side_and (side_of (by first | (and_intros <;> first | rfl | omega | exact Nat.le_of_ble_eq_true rfl) | fail)) ?_
 | fail
  all_goals
    conv => whnf
    first
    | (have e : okE b = false := (by first | exact okE_bad (by assumption) | exact okE_in (by assumption) (by assumption) | exact (okE_I (by assumption) (by assumption)).trans (by assumption)); rw [outE_no e, e]; exact OutA_nilB 0 2 9 1 5 rfl rfl rfl (by decide) (OutA_nilB 0 3 154 3 6 rfl rfl rfl (by decide) (OutA_ids rfl rfl rfl ⟨⟨_, _, _, rfl, rfl⟩, ⟨_, _, _, rfl, rfl⟩, trivial⟩ rfl (.inr (by intro o ho; simp only [List.mem_cons, List.not_mem_nil, or_false] at ho; rcases ho with rfl | rfl <;> rfl)))))
    | (have e : okE b = true := (okE_I (by assumption) (by assumption)).trans (by assumption); rw [outE_I (by assumption) (by assumption) (by assumption), e]; exact OutA_ids rfl rfl rfl ⟨⟨_, _, _, rfl, rfl⟩, ⟨_, _, _, rfl, rfl⟩, trivial⟩ rfl (.inr (by intro o ho; simp only [List.mem_cons, List.not_mem_nil, or_false] at ho; rcases ho with rfl | rfl <;> exact flat_map (fun _ => rfl) _)))
theorem c_spec_l1Place (b : List UInt8) (hb : b.length ≤ 1073741824) : PC Tryz.prog false 174 [.str b, .int .i64 0] (.bool (decide (b.length ≤ 6000))) [] := by
  have hin : inB 0 0 (b.length : Int) = true := by simp only [inB, Bool.and_eq_true, decide_eq_true_eq]; omega
  have hc := c_spec_l1In 0 0 (b.length : Int)
  rw [hin] at hc
  refine pc_at Tryz.func174 rfl (by kernel_rfl) 14 [.tmp 4] rfl rfl ?_
  repeat' (conv => whnf); first
 | refine nameB_true ?_
 | (refine nameB_dec (fun h => ?_) (fun h => ?_) <;> try simp only [lensB] at h)
 | refine splitB_true ?_
 | refine splitB_false ?_
 | refine Call0 (hc) rfl rfl ?_
 | fail
  all_goals
    conv => whnf
    refine OutA_plain rfl rfl ?_
    first
    | (rw [decide_eq_true (p := b.length ≤ 6000) (by omega)]; rfl)
    | (rw [decide_eq_false (p := b.length ≤ 6000) (by omega)]; rfl)
theorem c_spec_ReadNum_no (b : List UInt8) (hb : b.length ≤ 1073741824) (h : (decide (b.length ≤ 6000) && !(numFS b 0 false).2.2) = false) : PC Tryz.prog false 143 [.str b, .int .i64 0] (.tup [.int .i64 0, .int .i64 0, .bool false]) [] := by
  refine pc_at Tryz.func143 rfl (by kernel_rfl) 28 [.tmp 4, .tmp 5, .tmp 6] rfl rfl ?_
  repeat' (conv => whnf); first
 | refine nameB_true ?_
 | refine nameB_false ?_
 | (refine nameB_dec (fun h => ?_) (fun h => ?_) <;> try simp only [lensB] at h)
 | (refine nameB_cases (fun h => ?_) (fun h => ?_) <;> try simp only [nmL, lensB] at h)
 | refine splitB_true ?_
 | refine splitB_false ?_
 | refine draw_text (by kernel_rfl) (by kernel_rfl) (by kernel_rfl) ?_
 | refine Call0 (c_spec_l1Place b hb) rfl rfl ?_
 | refine CallB (c_spec_num b 0 false (Nat.zero_le _) hb) rfl rfl rfl rfl rfl rfl ?_
 | refine side_and (side_of (by first | exact Nat.le_of_ble_eq_true rfl | exact rfl | omega | fail)) ?_
 | fail
  all_goals
    conv => whnf
    first
    | exact OutA_plain rfl rfl rfl
    | (exfalso; simp_all; done)
theorem c_spec_ReadNum_yes (b : List UInt8) (hb : b.length ≤ 1073741824) (h : (decide (b.length ≤ 6000) && !(numFS b 0 false).2.2) = true) : PC Tryz.prog false 143 [.str b, .int .i64 0] (.tup [.int .i64 (numFS b 0 false).1, .int .i64 ((numFS b 0 false).2.1 : Int), .bool true]) [] := by
  refine pc_at Tryz.func143 rfl (by kernel_rfl) 28 [.tmp 4, .tmp 5, .tmp 6] rfl rfl ?_
  repeat' (conv => whnf); first
 | refine nameB_true ?_
 | refine nameB_false ?_
 | (refine nameB_dec (fun h => ?_) (fun h => ?_) <;> try simp only [lensB] at h)
 | (refine nameB_cases (fun h => ?_) (fun h => ?_) <;> try simp only [nmL, lensB] at h)
 | refine splitB_true ?_
 | refine splitB_false ?_
 | refine draw_text (by kernel_rfl) (by kernel_rfl) (by kernel_rfl) ?_
 | refine Call0 (c_spec_l1Place b hb) rfl rfl ?_
 | refine CallB (c_spec_num b 0 false (Nat.zero_le _) hb) rfl rfl rfl rfl rfl rfl ?_
 | refine side_and (side_of (by first | exact Nat.le_of_ble_eq_true rfl | exact rfl | omega | fail)) ?_
 | fail
  all_goals
    conv => whnf
    first
    | exact OutA_plain rfl rfl rfl
    | (exfalso; simp_all; done)
theorem c_spec_ReadEntry (b : List UInt8) (hb : b.length ≤ 1073741824) : PC Tryz.prog false 96 [.str b] (.tup [.agg [.int .i64 (outE b).Term, .int .i64 (outE b).Rec.Kind, .int .i64 (outE b).Rec.Txn, .int .i64 (outE b).Rec.Time, .int .i64 (outE b).Rec.Lead, .own 0, .own 1, .bool (outE b).Rec.Yes], .bool (okE b)]) [⟨false, 9, 1, (outE b).Rec.Reads.map strC⟩, ⟨false, 154, 3, (outE b).Rec.Writes.map WriteT.cells⟩] := by
  have ok := numFS_ok (b := b) (f := false) (Nat.zero_le _)
  have hi := ok.hi
  have hrr := c_spec_ReadRec (b.drop (numFS b 0 false).2.1) (by rw [List.length_drop]; omega)
  cases hn : (decide (b.length ≤ 6000) && !(numFS b 0 false).2.2) with
  | false =>
    have e : okE b = false := by unfold okE; rw [hn]; rfl
    rw [outE_no e, e]
    refine pc_at Tryz.func96 rfl (by kernel_rfl) 36 [.cell 2 124, .tmp 3] rfl rfl ?_
    repeat' (conv => whnf); first
 | refine nameB_true ?_
 | refine splitB_true ?_
 | refine Call0 (c_spec_ReadNum_no b hb hn) rfl rfl ?_
 | refine side_and (side_of (by first | exact ⟨Nat.le_of_ble_eq_true rfl, rfl⟩ | fail)) ?_
 | refine side_and (side_of (by first | (and_intros <;> first | rfl | omega | exact Nat.le_of_ble_eq_true rfl) | fail)) ?_
 | fail
    all_goals
      conv => whnf
      exact OutA_nilB 0 2 9 1 5 rfl rfl rfl (by decide) (OutA_nilB 0 3 154 3 6 rfl rfl rfl (by decide) (OutA_ids rfl rfl rfl ⟨⟨_, _, _, rfl, rfl⟩, ⟨_, _, _, rfl, rfl⟩, trivial⟩ rfl (.inr (by intro o ho; simp only [List.mem_cons, List.not_mem_nil, or_false] at ho; rcases ho with rfl | rfl <;> rfl))))
  | true =>
    have hok : okE b = (inB 1 (numFS b 0 false).1 200 && (outR (b.drop (numFS b 0 false).2.1)).2) := by unfold okE; rw [hn, Bool.true_and]
    refine pc_at Tryz.func96 rfl (by kernel_rfl) 36 [.cell 2 124, .tmp 3] rfl rfl ?_
    repeat' (conv => whnf); first
 | refine nameB_true ?_
 | refine nameB_false ?_
 | (refine nameB_cases (fun h => ?_) (fun h => ?_) <;> try simp only [nmL, lensB] at h)
 | refine splitB_true ?_
 | refine splitB_false ?_
 | refine Call0 (c_spec_ReadNum_yes b hb hn) rfl rfl ?_
 | refine Call0 (c_spec_l1In ..) rfl rfl ?_
 | refine CallF hrr (congrArg (fun l => [AV.str l]) (rest_eq (b := b) (a := (numFS b 0 false).2.1))) rfl rfl (Nat.le_of_ble_eq_true rfl) ?_
 | refine side_and (side_of (by first | exact ⟨Nat.le_of_ble_eq_true rfl, rfl⟩ | fail)) ?_
 | refine side_and (side_of (by first | exact Nat.le_of_ble_eq_true rfl | exact rfl | omega | fail)) ?_
 | refine side_and (side_of (by first | (and_intros <;> first | rfl | omega | exact Nat.le_of_ble_eq_true rfl) | fail)) ?_
 | fail
    all_goals
      conv => whnf
      first
      | (have e : okE b = false := (by rw [hok]; first | (simp [*]; done) | (simp_all; done)); rw [outE_no e, e]; exact OutA_nilB 0 2 9 1 5 rfl rfl rfl (by decide) (OutA_nilB 0 3 154 3 6 rfl rfl rfl (by decide) (OutA_ids rfl rfl rfl ⟨⟨_, _, _, rfl, rfl⟩, ⟨_, _, _, rfl, rfl⟩, trivial⟩ rfl (.inr (by intro o ho; simp only [List.mem_cons, List.not_mem_nil, or_false] at ho; rcases ho with rfl | rfl <;> rfl)))))
      | (have e : okE b = true := (by rw [hok]; first | (simp [*]; done) | (simp_all; done)); rw [outE_yes e, e]; exact OutA_ids rfl rfl rfl ⟨⟨_, _, _, rfl, rfl⟩, ⟨_, _, _, rfl, rfl⟩, trivial⟩ rfl (.inr (by intro o ho; simp only [List.mem_cons, List.not_mem_nil, or_false] at ho; rcases ho with rfl | rfl <;> exact flat_map (fun _ => rfl) _)))
theorem outE_small {b : List UInt8} : SmallR (outE b).Rec := by
  cases h : okE b with
  | true => rw [outE_yes h]; exact outR_small
  | false => rw [outE_no h]; exact zeroR_small
theorem small_ok {X : EntryT} (h : SmallR X.Rec) : X.ok := ⟨trivial, h.ok⟩
theorem finS_eq {b : List UInt8} {s : Nat} {n : Int} {a : Nat} (h : (finS b s n a).2.2 = false) : numB (finS b s n a).1 = (b.take (finS b s n a).2.1).drop s := by
  unfold finS at h ⊢
  by_cases hc : n > 1000000000 ∨ numB n ≠ (b.take a).drop s
  · rw [if_pos hc] at h; cases h
  · rw [if_neg hc]
    exact Decidable.byContradiction fun e => hc (.inr e)
theorem numM_eq {b : List UInt8} {s : Nat} : ∀ (f : Nat) (n q : Int) (a : Nat), (numM b s f n q a).2.2 = false → numB (numM b s f n q a).1 = (b.take (numM b s f n q a).2.1).drop s
  | 0, n, q, a, h => by
    unfold numM at h ⊢
    exact finS_eq h
  | f + 1, n, q, a, h => by
    unfold numM at h ⊢
    cases hx : b[a]? with
    | none => rw [hx] at h; cases h
    | some x =>
      rw [hx] at h
      simp only at h ⊢
      by_cases hl : x.toNat < 128
      · rw [if_pos hl] at h ⊢
        exact finS_eq h
      · rw [if_neg hl] at h ⊢
        exact numM_eq f _ _ _ h
theorem numFS_eq {b : List UInt8} {a : Nat} (h : (numFS b a false).2.2 = false) : numB (numFS b a false).1 = (b.take (numFS b a false).2.1).drop a := numM_eq 5 0 1 a h
theorem numFS_end {b : List UInt8} {a : Nat} (h : b.length ≤ a) : (numFS b a false).2.2 = true := by
  show (numM b a 5 0 1 a).2.2 = true
  unfold numM
  rw [List.getElem?_eq_none_iff.2 h]
def frN (b : List UInt8) (a : Nat) : Int := (numFS b a false).1
def frM (b : List UInt8) (a : Nat) : Nat := (numFS b a false).2.1
def frS (b : List UInt8) (a : Nat) : List UInt8 := (b.take (frM b a + (frN b a).toNat)).drop (frM b a)
def frE (b : List UInt8) (a : Nat) : Nat := frM b a + (frN b a).toNat + 3
def frOk (b : List UInt8) (a : Nat) : Bool := !(numFS b a false).2.2 && decide (frN b a ≤ 700) && decide (frN b a + 3 ≤ (b.length : Int) - frM b a) && decide (sealB (frS b a) = (b.take (frE b a)).drop (frM b a))
def frR (b : List UInt8) (a : Nat) : List UInt8 := match frOk b a with | true => frS b a | false => []
theorem frOk_lt {b : List UInt8} {a : Nat} (h : frOk b a = true) : a < frM b a ∧ frE b a ≤ b.length ∧ 0 ≤ frN b a ∧ frN b a ≤ 700 := by
  unfold frOk at h
  simp only [Bool.and_eq_true, Bool.not_eq_true', decide_eq_true_eq] at h
  obtain ⟨⟨⟨h1, h2⟩, h3⟩, h4⟩ := h
  have ha : a ≤ b.length := by
    rcases Nat.lt_or_ge b.length a with h | h
    · have := numFS_end (b := b) (a := a) (by omega)
      rw [this] at h1; cases h1
    · exact h
  have ok := numFS_ok (f := false) ha
  refine ⟨ok.go h1, ?_, ok.nn, h2⟩
  have := ok.nn
  unfold frE
  unfold frN at h3 ⊢
  unfold frM at h3 ⊢
  omega
theorem frE_lt {b : List UInt8} {a : Nat} (h : frOk b a = true) : a < frE b a ∧ frE b a ≤ b.length := by
  have := frOk_lt h
  unfold frE at this ⊢
  omega
theorem frS_len {b : List UInt8} {a : Nat} (h : frN b a + 3 ≤ (b.length : Int) - frM b a) : (frS b a).length = (frN b a).toNat := by
  unfold frS
  rw [List.length_drop, List.length_take]
  omega
def frs (b : List UInt8) : Nat → Nat → List (List UInt8) × Nat
  | 0, a => ([], a)
  | k + 1, a => match frOk b a with | false => ([], a) | true => (frS b a :: (frs b k (frE b a)).1, (frs b k (frE b a)).2)
def frames (b : List UInt8) (a : Nat) : List (List UInt8) × Nat := frs b (b.length + 1 - a) a
theorem frs_more {b : List UInt8} : ∀ (k a : Nat), b.length + 1 - a ≤ k → frs b k a = frs b (b.length + 1 - a) a := by
  intro k
  induction k using Nat.strongRecOn with
  | _ k ih =>
    intro a h
    cases k with
    | zero => rw [show b.length + 1 - a = 0 by omega]
    | succ k =>
      cases hk : b.length + 1 - a with
      | zero =>
        unfold frs
        cases hf : frOk b a with
        | false => rfl
        | true => have := frE_lt hf; omega
      | succ j =>
        unfold frs
        cases hf : frOk b a with
        | false => rfl
        | true =>
          have he := frE_lt hf
          simp only
          rw [ih k (by omega) (frE b a) (by omega), ih j (by omega) (frE b a) (by omega)]
theorem frames_no {b : List UInt8} {a : Nat} (h : frOk b a = false) : frames b a = ([], a) := by
  unfold frames
  cases b.length + 1 - a with
  | zero => rfl
  | succ k => unfold frs; rw [h]
theorem frames_yes {b : List UInt8} {a : Nat} (h : frOk b a = true) : frames b a = (frS b a :: (frames b (frE b a)).1, (frames b (frE b a)).2) := by
  have he := frE_lt h
  unfold frames
  obtain ⟨k, hk⟩ : ∃ k, b.length + 1 - a = k + 1 := ⟨b.length - a, by omega⟩
  rw [hk]
  conv => lhs; unfold frs
  rw [h]
  simp only
  rw [frs_more k (frE b a) (by omega)]
theorem frames_le {b : List UInt8} : ∀ (k a : Nat), b.length + 1 - a ≤ k → a ≤ b.length → (frames b a).2 ≤ b.length ∧ (frames b a).1.length ≤ b.length - a ∧ ∀ s ∈ (frames b a).1, s.length ≤ 700 := by
  intro k
  induction k with
  | zero => intro a h ha; omega
  | succ k ih =>
    intro a h ha
    cases hf : frOk b a with
    | false => rw [frames_no hf]; exact ⟨ha, Nat.zero_le _, fun s hs => by cases hs⟩
    | true =>
      have he := frE_lt hf
      obtain ⟨h1, h2, h3⟩ := ih (frE b a) (by omega) he.2
      rw [frames_yes hf]
      refine ⟨h1, by simp only [List.length_cons]; omega, fun s hs => ?_⟩
      rcases List.mem_cons.1 hs with rfl | hs
      · have hq := frOk_lt hf
        have : (frS b a).length = (frN b a).toNat := frS_len (by unfold frE at hq; omega)
        omega
      · exact h3 s hs
theorem frames_ok {b : List UInt8} : (frames b 0).2 ≤ b.length ∧ (frames b 0).1.length ≤ b.length ∧ ∀ s ∈ (frames b 0).1, s.length ≤ 700 := by
  have := frames_le (b := b) (b.length + 1) 0 (by omega) (Nat.zero_le _)
  exact ⟨this.1, by omega, this.2.2⟩
/-! By impl's reader. -/
def fX (b : List UInt8) (a : Nat) := numFI b a false
def fY (b : List UInt8) (a : Nat) := takeF b (fX b a).2.1 (fX b a).2.2 (fX b a).1
def fZ (b : List UInt8) (a : Nat) := takeF b (fY b a).2.1 (fY b a).2.2 3
theorem cut3 {b : List UInt8} {m n k : Nat} (h : n ≤ b.length) (hm : m ≤ n) (hk : n ≤ k) : (b.take k).drop m = (b.take n).drop m ++ (b.take k).drop n := by
  have e : b.take k = b.take n ++ (b.take k).drop n := by
    have := (List.take_append_drop n (b.take k)).symm
    rw [List.take_take, Nat.min_eq_left hk] at this
    exact this
  conv => lhs; rw [e]
  rw [List.drop_append_of_le_length (by rw [List.length_take]; omega)]
theorem fr_impl {b : List UInt8} {a : Nat} (ha : a ≤ b.length) : (decide ((fX b a).1 ≤ 700) && !(fZ b a).2.2 && decide (sealB (fY b a).1 = (fY b a).1 ++ (fZ b a).1)) = frOk b a ∧ (frOk b a = true → (fY b a).1 = frS b a ∧ (fZ b a).2.1 = frE b a) := by
  have hrel : RelG (fX b a) (numFS b a false) := numF_rel
  have ok := numFS_ok (f := false) ha
  cases hb : (numFS b a false).2.2 with
  | true =>
    have hx : (fX b a).2.2 = true := by rw [hrel.1, hb]
    have hy : (fY b a).2.2 = true := by unfold fY; rw [takeF_no (.inl hx)]
    have hz : (fZ b a).2.2 = true := by unfold fZ; rw [takeF_no (.inl hy)]
    have hf : frOk b a = false := by unfold frOk; rw [hb]; rfl
    rw [hz, hf]
    simp
  | false =>
    have hx : fX b a = numFS b a false := hrel.2 hb
    have hxn : (fX b a).1 = frN b a := by rw [hx]; rfl
    have hxm : (fX b a).2.1 = frM b a := by rw [hx]; rfl
    have hxb : (fX b a).2.2 = false := by rw [hx, hb]
    have hnn : 0 ≤ frN b a := ok.nn
    have hmm : frM b a ≤ b.length := ok.hi
    by_cases h1 : frN b a > (b.length : Int) - frM b a
    · have hy : fY b a = ([], frM b a, true) := by unfold fY; rw [hxn, hxm]; exact takeF_no (.inr h1)
      have hz : (fZ b a).2.2 = true := by unfold fZ; rw [takeF_no (.inl (by rw [hy]))]
      have hf : frOk b a = false := by unfold frOk; rw [decide_eq_false (p := frN b a + 3 ≤ (b.length : Int) - frM b a) (by omega)]; simp
      rw [hz, hf]
      simp
    · have hy : fY b a = (frS b a, frM b a + (frN b a).toNat, false) := by unfold fY; rw [hxn, hxm]; exact takeF_yes hxb h1
      by_cases h2 : (3 : Int) > (b.length : Int) - ((frM b a + (frN b a).toNat : Nat) : Int)
      · have hz : (fZ b a).2.2 = true := by unfold fZ; rw [hy, takeF_no (.inr h2)]
        have hf : frOk b a = false := by unfold frOk; rw [decide_eq_false (p := frN b a + 3 ≤ (b.length : Int) - frM b a) (by omega)]; simp
        rw [hz, hf]
        simp
      · have hz : fZ b a = ((b.take (frE b a)).drop (frM b a + (frN b a).toNat), frE b a, false) := by unfold fZ; rw [hy, takeF_yes rfl h2]; rfl
        have hcut : frS b a ++ (b.take (frE b a)).drop (frM b a + (frN b a).toNat) = (b.take (frE b a)).drop (frM b a) := (cut3 (by omega) (by omega) (by unfold frE; omega)).symm
        rw [hy, hz, hxn]
        simp only
        rw [hcut]
        refine ⟨?_, fun _ => ⟨trivial, trivial⟩⟩
        unfold frOk
        rw [hb, decide_eq_true (p := frN b a + 3 ≤ (b.length : Int) - frM b a) (by omega)]
        simp
theorem fX_ok {b : List UInt8} {a : Nat} (ha : a ≤ b.length) : OkN b a (fX b a) := numFI_ok ha
theorem fY_ok {b : List UInt8} {a : Nat} (ha : a ≤ b.length) : OkA b (fX b a).2.1 (fY b a) := takeF_ok (fX_ok ha).hi (fX_ok ha).nn
theorem fr_spec {b : List UInt8} {a : Nat} (ha : a ≤ b.length) (hb : (numFS b a false).2.2 = false) (h2 : frN b a + 3 ≤ (b.length : Int) - frM b a) : (numB ((frS b a).length : Nat) ++ sealB (frS b a) = (b.take (frE b a)).drop a) ↔ sealB (frS b a) = (b.take (frE b a)).drop (frM b a) := by
  have ok := numFS_ok (f := false) ha
  have hnn : 0 ≤ frN b a := ok.nn
  have hgo : a < frM b a := ok.go hb
  rw [frS_len h2, Int.toNat_of_nonneg hnn, cut3 (b := b) (m := a) (n := frM b a) (k := frE b a) ok.hi (Nat.le_of_lt hgo) (by unfold frE; omega)]
  have e : numB (frN b a) = (b.take (frM b a)).drop a := numFS_eq hb
  rw [e]
  exact ⟨fun h => List.append_cancel_left h, fun h => by rw [h]⟩
def frQ (b : List UInt8) (a : Nat) : Nat := match frOk b a with | true => frE b a | false => 0
def frT (b : List UInt8) (a : Nat) : Int := match frOk b a with | true => (frE b a : Int) | false => -1
theorem fr_no {b : List UInt8} {a : Nat} (h : frOk b a = false) : frR b a = [] ∧ frQ b a = 0 ∧ frT b a = -1 := by unfold frR frQ frT; rw [h]; exact ⟨rfl, rfl, rfl⟩
theorem fr_yes {b : List UInt8} {a : Nat} (h : frOk b a = true) : frR b a = frS b a ∧ frQ b a = frE b a ∧ frT b a = (frE b a : Int) := by unfold frR frQ frT; rw [h]; exact ⟨rfl, rfl, rfl⟩
theorem fY_len {b : List UInt8} {a : Nat} (ha : a ≤ b.length) : (fY b a).1.length ≤ 1000000000 := by
  have h1 := takeF_len (b := b) (a := (fX b a).2.1) (f := (fX b a).2.2) (fX_ok ha).nn
  have h2 := (fX_ok ha).le
  have h3 : ((fY b a).1.length : Int) ≤ (fX b a).1 := h1
  omega
theorem fr_side {b : List UInt8} {a : Nat} (ha : a ≤ b.length) : (takeF b (fX b a).2.1 (fX b a).2.2 (fX b a).1).1.length + (takeF b (fY b a).2.1 (fY b a).2.2 3).1.length ≤ 4611686018427387904 := by
  have h1 : (takeF b (fX b a).2.1 (fX b a).2.2 (fX b a).1).1.length ≤ 1000000000 := fY_len ha
  have h2 := takeF_len (b := b) (a := (fY b a).2.1) (f := (fY b a).2.2) (n := 3) (by omega)
  omega
theorem fr_bad {b : List UInt8} {a : Nat} (ha : a ≤ b.length) (h : (numFI b a false).1 > 700 ∨ (fZ b a).2.2 = true ∨ ¬ sealB (fY b a).1 = (takeF b (fX b a).2.1 (fX b a).2.2 (fX b a).1).1 ++ (takeF b (fY b a).2.1 (fY b a).2.2 3).1) : frOk b a = false := by
  rw [← (fr_impl ha).1]
  rcases h with h | h | h
  · replace h : (fX b a).1 > 700 := h
    rw [decide_eq_false (show ¬ (fX b a).1 ≤ 700 by omega)]
    simp
  · rw [h]
    simp
  · replace h : ¬ sealB (fY b a).1 = (fY b a).1 ++ (fZ b a).1 := h
    rw [decide_eq_false h]
    simp
theorem fr_good {b : List UInt8} {a : Nat} (ha : a ≤ b.length) (h1 : ¬ (numFI b a false).1 > 700) (h2 : (fZ b a).2.2 = false) (h3 : sealB (fY b a).1 = (takeF b (fX b a).2.1 (fX b a).2.2 (fX b a).1).1 ++ (takeF b (fY b a).2.1 (fY b a).2.2 3).1) : frOk b a = true := by
  rw [← (fr_impl ha).1]
  replace h1 : ¬ (fX b a).1 > 700 := h1
  replace h3 : sealB (fY b a).1 = (fY b a).1 ++ (fZ b a).1 := h3
  rw [decide_eq_true (show (fX b a).1 ≤ 700 by omega), h2, decide_eq_true h3]
  rfl
theorem fr_out {b : List UInt8} {a : Nat} (ha : a ≤ b.length) (e : frOk b a = true) : AV.tup [.str (takeF b (fX b a).2.1 (fX b a).2.2 (fX b a).1).1, .int .i64 ((takeF b (fY b a).2.1 (fY b a).2.2 3).2.1 : Nat), .bool true] = .tup [.str (frR b a), .int .i64 (frQ b a : Nat), .bool (frOk b a)] := by
  obtain ⟨q1, q2⟩ := (fr_impl ha).2 e
  have q := fr_yes e
  rw [q.1, q.2.1, e, ← q1, ← q2]
  rfl
theorem fs_bad {b : List UInt8} {a : Nat} (ha : a ≤ b.length) (h : (numFS b a false).2.2 = true ∨ (numFS b a false).1 > 700 ∨ (numFS b a false).1 + 3 > (b.length : Int) - ((numFS b a false).2.1 : Int)) : frOk b a = false := by
  unfold frOk frN frM
  rcases h with h | h | h
  · rw [h]; simp
  · rw [decide_eq_false (show ¬ (numFS b a false).1 ≤ 700 by omega)]; simp
  · rw [decide_eq_false (show ¬ (numFS b a false).1 + 3 ≤ (b.length : Int) - ((numFS b a false).2.1 : Int) by omega)]; simp
theorem fs_seal {b : List UInt8} {a : Nat} (ha : a ≤ b.length) (h1 : (numFS b a false).2.2 = false) (h2 : ¬ (numFS b a false).1 > 700) (h3 : ¬ (numFS b a false).1 + 3 > (b.length : Int) - ((numFS b a false).2.1 : Int)) {L : List UInt8} (hL : L = (b.take (frE b a)).drop a) : (frOk b a = true ↔ numB ((frS b a).length : Nat) ++ sealB (frS b a) = L) := by
  rw [hL, fr_spec ha h1 (by show (numFS b a false).1 + 3 ≤ (b.length : Int) - ((numFS b a false).2.1 : Int); omega)]
  unfold frOk
  rw [h1, decide_eq_true (show frN b a ≤ 700 by show (numFS b a false).1 ≤ 700; omega), decide_eq_true (show frN b a + 3 ≤ (b.length : Int) - frM b a by show (numFS b a false).1 + 3 ≤ (b.length : Int) - ((numFS b a false).2.1 : Int); omega)]
  simp
theorem iff_no {b : Bool} {p : Prop} (h : b = true ↔ p) (hn : ¬ p) : b = false := by
  cases b with
  | false => rfl
  | true => exact absurd (h.1 rfl) hn
theorem c_impl_readFrame (b : List UInt8) (a : Nat) (ha : a ≤ b.length) (hb : b.length ≤ 100000) : PC Tryz.prog false 183 [.str b, .int .i64 (a : Nat)] (.tup [.str (frR b a), .int .i64 (frQ b a : Nat), .bool (frOk b a)]) [] := by
  have hi := fr_impl ha
  have hy := fY_len ha
  refine pc_at Tryz.func183 rfl (by kernel_rfl) 41 [.tmp 4, .tmp 5, .tmp 6] rfl rfl ?_
  repeat' (conv => whnf); first
 | (refine nameB_cases (b := (fZ b a).2.2) (fun h => ?_) (fun h => ?_))
 | exact side_of (fr_side ha)
 | (refine nameB_dec (fun h => ?_) (fun h => ?_) <;> try simp only [lensB] at h)
 | (refine nameB_cases (fun h => ?_) (fun h => ?_) <;> try simp only [nmL, lensB] at h)
 | refine splitB_true ?_
 | refine splitB_false ?_
 | refine draw_text (by kernel_rfl) (by kernel_rfl) (by kernel_rfl) ?_
 | refine CallB (c_impl_num b a false ha (by omega)) rfl rfl rfl rfl rfl rfl ?_
 | refine CallB (c_impl_take b (fX b a).2.1 (fX b a).2.2 (fX b a).1 (fX_ok ha).hi (by omega) (fX_ok ha).nn (fX_ok ha).le) rfl rfl rfl rfl rfl rfl ?_
 | refine CallB (c_impl_take b (fY b a).2.1 (fY b a).2.2 3 (fY_ok ha).hi (by omega) (by omega) (by omega)) rfl rfl rfl rfl rfl rfl ?_
 | refine Call0 (c_impl_seal (fY b a).1 (by omega)) rfl rfl ?_
 | refine side_and (side_of (by first | exact Nat.le_of_ble_eq_true rfl | exact rfl | omega | fail)) ?_
 | refine side_and ?_ ?_
 | fail
  all_goals
    conv => whnf
    first
    | (have e := fr_bad ha (by first | exact .inl (by assumption) | exact .inr (.inl (by assumption)) | exact .inr (.inr (by assumption))); have q := fr_no e; rw [q.1, q.2.1, e]; exact OutA_plain rfl rfl rfl)
    | (have e := fr_good ha (by assumption) (by assumption) (by assumption); exact OutA_plain rfl rfl (fr_out ha e))
theorem c_spec_l6Frame (s : List UInt8) (h : s.length ≤ 1048576) : PC Tryz.prog false 78 [.str s] (.str (numB (s.length : Nat) ++ sealB s)) [] := by
  refine pc_at Tryz.func78 rfl (by kernel_rfl) 9 [.tmp 2] rfl rfl ?_
  repeat' (conv => whnf); first
 | exact side_of (by have h1 := numB_len (s.length : Nat); have h2 : (sealB s).length = s.length + 3 := (by unfold sealB threeB; simp); omega)
 | refine Call0 (c_spec_l1NumB9 (s.length : Nat) (by omega) (by omega)) rfl rfl ?_
 | refine Call0 (c_spec_l1Seal s (by omega)) rfl rfl ?_
 | refine side_and ?_ ?_
 | fail
  all_goals
    conv => whnf
    exact OutA_plain rfl rfl rfl
theorem frS_700 {b : List UInt8} {a : Nat} : (frS b a).length ≤ b.length := by
  unfold frS
  rw [List.length_drop, List.length_take]
  omega
theorem c_spec_l6Read (b : List UInt8) (a : Nat) (ha : a ≤ b.length) (hb : b.length ≤ 100000) : PC Tryz.prog false 142 [.str b, .int .i64 (a : Nat)] (.tup [.str (frR b a), .int .i64 (frT b a)]) [] := by
  have ok := numFS_ok (f := false) ha
  have o1 := ok.nn
  have o2 := ok.le
  have o3 := ok.hi
  have o4 := ok.lo
  have hw1 : IntKind.i64.wrap ((numFS b a false).1 + 3) = (numFS b a false).1 + 3 := i64w (by omega) (by omega)
  have hw2 : IntKind.i64.wrap ((b.length : Int) - ((numFS b a false).2.1 : Int)) = (b.length : Int) - ((numFS b a false).2.1 : Int) := i64w (by omega) (by omega)
  have hw3 : IntKind.i64.wrap (((numFS b a false).2.1 : Int) + (numFS b a false).1) = ((numFS b a false).2.1 : Int) + (numFS b a false).1 := i64w (by omega) (by omega)
  have hw4 : IntKind.i64.wrap (((numFS b a false).2.1 : Int) + (numFS b a false).1 + 3) = ((numFS b a false).2.1 : Int) + (numFS b a false).1 + 3 := i64w (by omega) (by omega)
  have hsE : (b.take (IntKind.i64.wrap (((numFS b a false).2.1 : Int) + (numFS b a false).1)).toNat).drop ((numFS b a false).2.1 : Int).toNat = frS b a := by
    rw [hw3]
    unfold frS frM frN
    congr 2
    omega
  have hsG : IntKind.i64.wrap (IntKind.i64.wrap (((numFS b a false).2.1 : Int) + (numFS b a false).1) + 3) = (frE b a : Nat) := by
    rw [hw3, hw4]
    unfold frE frM frN
    omega
  have hsF : (b.take (IntKind.i64.wrap (IntKind.i64.wrap (((numFS b a false).2.1 : Int) + (numFS b a false).1) + 3)).toNat).drop a = (b.take (frE b a)).drop a := by
    rw [hsG]
    rfl
  refine pc_at Tryz.func142 rfl (by kernel_rfl) 64 [.tmp 4, .tmp 5] rfl rfl ?_
  repeat' (conv => whnf); first
 | (refine nameB_cases (b := (numFS b a false).2.2) (fun h => ?_) (fun h => ?_))
 | rw [hw1, hw2] at h
 | refine side_and (side_of (by (try simp only [hw3, hw4]); omega)) ?_
 | (refine nameB_dec (fun h => ?_) (fun h => ?_) <;> try simp only [lensB] at h)
 | (refine nameB_cases (fun h => ?_) (fun h => ?_) <;> try simp only [nmL, lensB] at h)
 | refine splitB_true ?_
 | refine splitB_false ?_
 | refine draw_text (by kernel_rfl) (by kernel_rfl) (by kernel_rfl) ?_
 | refine CallB (c_spec_num b a false ha (by omega)) rfl rfl rfl rfl rfl rfl ?_
 | (refine CallD0 (c_spec_l6Frame (frS b a) (by have := frS_700 (b := b) (a := a); omega)) (congrArg (fun z => [AV.str z]) hsE) rfl rfl ?_)
 | refine side_and (side_of (by first | exact Nat.le_of_ble_eq_true rfl | exact rfl | omega | fail)) ?_
 | fail
  all_goals
    conv => whnf
    first
    | (have e := fs_bad ha (by first | exact .inl (by assumption) | exact .inr (.inl (by assumption)) | exact .inr (.inr (by assumption))); have q := fr_no e; rw [q.1, q.2.2]; exact OutA_plain rfl rfl rfl)
    | (have hq := fs_seal ha (by assumption) (by assumption) (by assumption) hsF
       first
       | (have e := hq.2 (by assumption); have q := fr_yes e; rw [q.1, q.2.2]; exact OutA_plain rfl rfl (by rw [← hsE, ← hsG]; rfl))
       | (have e := iff_no hq (by assumption); have q := fr_no e; rw [q.1, q.2.2]; exact OutA_plain rfl rfl rfl))
end Go.Proofs.YtfpkfnfgloonhaaGreat
set_option maxRecDepth 20000
set_option maxHeartbeats 4000000
set_option linter.unusedVariables false
namespace Go.Ab

theorem Ans_mono {P : Program} {f : Nat} {args : Array Value} {w : World} {R S : Value → World → Prop} (h : Ans P f args w R) (hrs : ∀ v w', R v w' → S v w') : Ans P f args w S := by
  unfold Ans at h ⊢
  split at h
  · exact hrs _ _ h
  · exact h.mono fun e w' ⟨v, e1, e2⟩ => ⟨v, e1, hrs _ _ e2⟩
  · exact h.elim

def PromO : List AObj → List AObj → Prop
  | [], os' => os' = []
  | o :: os, os' => ∃ o' l, os' = o' :: l ∧ (o' = o ∨ ∃ shp, o.kind = .slc ∧ o' = { o with kind := .deep shp } ∧ ∀ e ∈ o.elems, flatFit shp e = true) ∧ PromO os l
theorem PromO.at : ∀ {os os' : List AObj}, PromO os os' → ∀ i : Nat, (os[i]? = none ∧ os'[i]? = none) ∨ ∃ o o', os[i]? = some o ∧ os'[i]? = some o' ∧ (o' = o ∨ ∃ shp, o.kind = .slc ∧ o' = { o with kind := .deep shp } ∧ ∀ e ∈ o.elems, flatFit shp e = true)
  | [], os', h, i => by
    unfold PromO at h
    subst h
    exact .inl ⟨by simp, by simp⟩
  | o :: os, os', h, i => by
    unfold PromO at h
    obtain ⟨o', l, rfl, h1, h2⟩ := h
    cases i with
    | zero => exact .inr ⟨o, o', rfl, rfl, h1⟩
    | succ i => simpa using PromO.at h2 i
theorem PC.prom {P : Program} {sh : Bool} {f : Nat} {args : List AV} {r : AV} {os os' : List AObj} (h : PC P sh f args r os) (hp : PromO os os') : PC P sh f args r os' := by
  refine ⟨fun w R vals hR hv => Ans_mono (h.run w R vals hR hv) fun v w' hq => ?_⟩
  obtain ⟨hdr, hb, hval, hslc, hobj, hdis⟩ := hq
  have back : ∀ (i : Nat) (o' : AObj), os'[i]? = some o' → ∃ o, os[i]? = some o ∧ (o' = o ∨ ∃ shp, o.kind = .slc ∧ o' = { o with kind := .deep shp } ∧ ∀ e ∈ o.elems, flatFit shp e = true) := by
    intro i o' hi
    rcases hp.at i with ⟨_, h2⟩ | ⟨o, o2, h1, h2, h3⟩
    · rw [h2] at hi; cases hi
    · rw [h2] at hi; cases hi; exact ⟨o, h1, h3⟩
  have forth : ∀ (i : Nat) (o : AObj), os[i]? = some o → ∃ o', os'[i]? = some o' ∧ (o' = o ∨ ∃ shp, o.kind = .slc ∧ o' = { o with kind := .deep shp } ∧ ∀ e ∈ o.elems, flatFit shp e = true) := by
    intro i o hi
    rcases hp.at i with ⟨h1, _⟩ | ⟨o1, o2, h1, h2, h3⟩
    · rw [h1] at hi; cases hi
    · rw [h1] at hi; cases hi; exact ⟨o2, h2, h3⟩
  generalize hc : resCtx R sh w w' hdr os = c at hval hobj
  generalize hc' : resCtx R sh w w' hdr os' = c'
  have eo : ∀ i, c.objs i = os[i]? := fun i => by rw [← hc]; rfl
  have eo' : ∀ i, c'.objs i = os'[i]? := fun i => by rw [← hc']; rfl
  have ew : c'.w = c.w := by rw [← hc, ← hc']; rfl
  have eh : c'.hdr = c.hdr := by rw [← hc, ← hc']; rfl
  have hro : ∀ b, c.ro b → c'.ro b := by
    intro b q
    rw [← hc] at q
    rw [← hc']
    obtain ⟨q1, q2, q3⟩ := q
    refine ⟨q1, q2, fun i o' hi => ?_⟩
    obtain ⟨o, h1, _⟩ := back i o' hi
    exact q3 i o h1
  have hR : ∀ x u, RR c.w c.ro x u → RR c'.w c'.ro x u := fun x u => by rw [ew]; exact RR.mono (fun _ _ _ => rfl) hro x u
  have hO : ∀ i o, c.objs i = some o → ∃ o', c'.objs i = some o' ∧ o'.esz = o.esz ∧ (c'.hdr i).v = (c.hdr i).v := by
    intro i o hi
    rw [eo] at hi
    obtain ⟨o', h1, h2⟩ := forth i o hi
    refine ⟨o', by rw [eo']; exact h1, ?_, by rw [eh]⟩
    rcases h2 with rfl | ⟨shp, _, rfl, _⟩ <;> rfl
  have hQ : ∀ i o, c.objs i = some o → ∃ o', c'.objs i = some o' ∧ o'.esz = o.esz ∧ (c'.hdr i).v = (c.hdr i).v ∧ o'.box = o.box := by
    intro i o hi
    rw [eo] at hi
    obtain ⟨o', h1, h2⟩ := forth i o hi
    refine ⟨o', by rw [eo']; exact h1, ?_, by rw [eh], ?_⟩
    · rcases h2 with rfl | ⟨shp, _, rfl, _⟩ <;> rfl
    · rcases h2 with rfl | ⟨shp, hk, rfl, _⟩
      · rfl
      · unfold AObj.box; rw [hk]
  have hC := cel_keep (c := c) (c' := c') hO (fun i o o' shp q1 q2 q3 => by
    rw [eo] at q1
    rw [eo'] at q2
    obtain ⟨o2, h1, h2⟩ := forth i o q1
    rw [q2] at h1
    cases h1
    rcases h2 with rfl | ⟨shp', e2, _⟩
    · rfl
    · rw [e2] at q3; cases q3) (fun i o b j _ _ => by rw [ew])
  refine ⟨hdr, hb, ?_, ?_, ?_, ?_⟩
  · rw [hc']
    exact VR.mono hR hC (prt_keep hQ) hO _ _ hval
  · intro o' ho'
    obtain ⟨i, hi⟩ := List.getElem?_of_mem ho'
    obtain ⟨o, h1, h2⟩ := back i o' hi
    have hb0 := hslc o (List.mem_of_getElem? h1)
    rcases h2 with rfl | ⟨shp, hk, rfl, _⟩
    · exact hb0
    · rfl
  · intro i o' hi
    rw [hc']
    obtain ⟨o, h1, h2⟩ := back i o' hi
    obtain ⟨k2, k3, kn, cs, k4, k5, k6⟩ := hobj i o h1
    rcases h2 with rfl | ⟨shp, hk, rfl, hf⟩
    · refine ⟨k2, k3, by rw [ew]; exact kn, cs, by rw [ew]; exact k4, k5, ?_⟩
      cases hk : o'.kind with
      | box =>
        obtain ⟨q1, q2⟩ := k6.box hk
        rw [q2]
        exact CellsR_box hk (VL.mono hR hC (prt_keep hQ) hO _ _ q1)
      | slc =>
        obtain ⟨q1, q2⟩ := k6.slc hk
        rw [q2]
        exact CellsR_slc hk (LR.ofR hR _ _ q1)
      | deep shp =>
        have := k6.deep hk
        rw [← ew] at this
        exact CellsR_deep hk this
    · obtain ⟨q1, q2⟩ := k6.slc hk
      refine ⟨k2, k3, by rw [ew]; exact kn, cs, by rw [ew]; exact k4, k5, ?_⟩
      rw [q2]
      have := flat_TEs k3 hf q1
      rw [← ew] at this
      exact CellsR_deep (sh := shp) rfl this
  · intro i j o o' b hi hj
    obtain ⟨o1, h1, _⟩ := back i o hi
    obtain ⟨o2, h2, _⟩ := back j o' hj
    exact hdis i j o1 o2 b h1 h2
end Go.Ab
namespace Go.Proofs.YtfpkfnfgloonhaaGreat
open Go.Ab
set_option linter.unusedSimpArgs false
set_option maxRecDepth 20000
set_option maxHeartbeats 4000000
set_option linter.unusedVariables false
theorem c_impl_readFrame_no (b : List UInt8) (a : Nat) (ha : a ≤ b.length) (hb : b.length ≤ 100000) (h : frOk b a = false) : PC Tryz.prog false 183 [.str b, .int .i64 (a : Nat)] (.tup [.str [], .int .i64 0, .bool false]) [] := by
  have := c_impl_readFrame b a ha hb
  have q := fr_no h
  rw [q.1, q.2.1, h] at this
  exact this
theorem c_impl_readFrame_yes (b : List UInt8) (a : Nat) (ha : a ≤ b.length) (hb : b.length ≤ 100000) (h : frOk b a = true) : PC Tryz.prog false 183 [.str b, .int .i64 (a : Nat)] (.tup [.str (frS b a), .int .i64 (frE b a : Nat), .bool true]) [] := by
  have := c_impl_readFrame b a ha hb
  have q := fr_yes h
  rw [q.1, q.2.1, h] at this
  exact this
theorem c_spec_l6Read_no (b : List UInt8) (a : Nat) (ha : a ≤ b.length) (hb : b.length ≤ 100000) (h : frOk b a = false) : PC Tryz.prog false 142 [.str b, .int .i64 (a : Nat)] (.tup [.str [], .int .i64 (-1)]) [] := by
  have := c_spec_l6Read b a ha hb
  have q := fr_no h
  rw [q.1, q.2.2] at this
  exact this
theorem c_spec_l6Read_yes (b : List UInt8) (a : Nat) (ha : a ≤ b.length) (hb : b.length ≤ 100000) (h : frOk b a = true) : PC Tryz.prog false 142 [.str b, .int .i64 (a : Nat)] (.tup [.str (frS b a), .int .i64 (frE b a : Nat)]) [] := by
  have := c_spec_l6Read b a ha hb
  have q := fr_yes h
  rw [q.1, q.2.2] at this
  exact this
def FrInv (b : List UInt8) (a : Nat) (acc : List (List UInt8)) : Prop := (a ≤ b.length ∧ acc.length ≤ a) ∧ acc ++ (frames b a).1 = (frames b 0).1 ∧ (frames b a).2 = (frames b 0).2
theorem FrInv.start (b : List UInt8) : FrInv b 0 [] := ⟨⟨Nat.zero_le _, Nat.zero_le _⟩, rfl, rfl⟩
theorem FrInv.next {b : List UInt8} {a : Nat} {acc : List (List UInt8)} (h : FrInv b a acc) (hf : frOk b a = true) : FrInv b (frE b a) (acc ++ [frS b a]) := by
  have he := frE_lt hf
  obtain ⟨⟨h1, h2⟩, h3, h4⟩ := h
  rw [frames_yes hf] at h3 h4
  refine ⟨⟨he.2, ?_⟩, ?_, h4⟩
  · rw [List.length_append]
    simp only [List.length_cons, List.length_nil]
    omega
  · rw [List.append_assoc]
    exact h3
theorem FrInv.stop {b : List UInt8} {a : Nat} {acc : List (List UInt8)} (h : FrInv b a acc) (hf : frOk b a = false) : (frames b 0).1 = acc ∧ (frames b 0).2 = a := by
  obtain ⟨_, h3, h4⟩ := h
  rw [frames_no hf] at h3 h4
  exact ⟨by rw [← h3, List.append_nil], h4.symm⟩
theorem c_impl_framesOf (b : List UInt8) (hb : b.length ≤ 100000) : PC Tryz.prog false 147 [.str b] (.tup [.own 0, .int .i64 ((frames b 0).2 : Nat)]) [⟨false, 9, 1, (frames b 0).1.map strC⟩] := by
  refine pc_at Tryz.func147 rfl (by kernel_rfl) 26 [.tmp 2, .tmp 3] rfl rfl ?_
  repeat' (conv => whnf); first
 | refine side_and (side_of (one_lenC rfl rfl)) ?_
 | refine side_and (side_of (by first | (and_intros <;> first | exact Nat.le_of_ble_eq_true rfl | rfl | (intro e; exact absurd (AV.own.inj e) (by decide)) | (intro e; exact AV.noConfusion e)) | fail)) ?_
 | refine side_and (side_of (app_boundC (L := acc.map strC) rfl (by (rw [List.length_map]; omega)) (Nat.le_of_ble_eq_true rfl))) ?_
 | refine nameB_true ?_
 | refine nameB_false ?_
 | refine splitB_true ?_
 | refine splitB_false ?_
 | ((refine Loop_nil 4 1 9 1 rfl rfl (by decide) ?_; refine Loop_at [0] [] (Nat × List (List UInt8)) (fun j => match j with | (a, acc) => (a ≤ b.length ∧ acc.length ≤ a) ∧ FrInv b a acc) (fun j => match j with | (a, acc) => [(5, .int .i64 (a : Nat)), (4, .own 1)]) (fun j => match j with | (a, acc) => [(1, ⟨false, 9, 1, acc.map strC⟩)]) (fun j => match j with | (a, acc) => b.length - a) (0, []) ⟨by first | (simp_all <;> fail) | rfl | fail, by first | rfl | (simp_all <;> fail) | fail, trivial⟩ ⟨by first | rfl | exact congrArg (fun e => some (AObj.mk _ _ _ e)) (by rw [List.map_append]; rfl) | fail | fail, trivial⟩ (by (try dsimp only); first | (exact ⟨(FrInv.start b).1, FrInv.start b⟩) | fail) ?_; (conv => whnf); refine side_and (side_of (by first | exact fun ⟨a, acc⟩ => rfl | exact fun ⟨a, acc⟩ => by simp [headOk, closedE, closedO, closedL, AV.closed, hcap.closed, hasId, AObj.box, BK.ofB])) ?_; rintro ⟨a, acc⟩ hT; try dsimp only at hT))
 | (refine Again_of (frE b a, acc ++ [frS b a]) ⟨by first | rfl | exact i64_next (by omega) | (simp_all <;> fail) | fail, by first | rfl | (simp_all <;> fail) | fail, trivial⟩ ⟨by first | rfl | exact congrArg (fun e => some (AObj.mk _ _ _ e)) (by rw [List.map_append]; rfl) | fail | fail, trivial⟩ (by first | (and_intros <;> first | rfl | trivial) | fail) (by first | (and_intros <;> first | rfl | trivial) | fail) rfl rfl rfl (by (try dsimp only); first | (exact ⟨(hT.2.next hf).1, hT.2.next hf⟩) | fail) (show _ < _ by (try dsimp only); omega))
 | ((rcases hf : frOk b a with _ | _ <;> first | refine Call0 (c_impl_readFrame_no b a hT.1.1 hb hf) rfl rfl ?_ | (have he := frE_lt hf; refine Call0 (c_impl_readFrame_yes b a hT.1.1 hb hf) rfl rfl ?_)))
 | fail
  all_goals
    conv => whnf
    first
    | (have q := hT.2.stop hf; rw [q.1, q.2]; exact OutA_ids rfl rfl rfl ⟨⟨_, _, _, rfl, rfl⟩, trivial⟩ rfl (.inr (flat_one (flat_map (fun _ => rfl) _))))
theorem c_spec_l6Frames (b : List UInt8) (hb : b.length ≤ 100000) : PC Tryz.prog false 94 [.str b] (.tup [.own 0, .int .i64 ((frames b 0).2 : Nat)]) [⟨false, 9, 1, (frames b 0).1.map strC⟩] := by
  refine pc_at Tryz.func94 rfl (by kernel_rfl) 24 [.tmp 2, .tmp 3] rfl rfl ?_
  repeat' (conv => whnf); first
 | refine side_and (side_of (one_lenC rfl rfl)) ?_
 | refine side_and (side_of (by first | (and_intros <;> first | exact Nat.le_of_ble_eq_true rfl | rfl | (intro e; exact absurd (AV.own.inj e) (by decide)) | (intro e; exact AV.noConfusion e)) | fail)) ?_
 | refine side_and (side_of (app_boundC (L := acc.map strC) rfl (by (rw [List.length_map]; omega)) (Nat.le_of_ble_eq_true rfl))) ?_
 | refine nameB_true ?_
 | refine nameB_false ?_
 | refine splitB_true ?_
 | refine splitB_false ?_
 | ((refine Loop_nil 4 1 9 1 rfl rfl (by decide) ?_; refine Loop_at [0] [] (Nat × List (List UInt8)) (fun j => match j with | (a, acc) => (a ≤ b.length ∧ acc.length ≤ a) ∧ FrInv b a acc) (fun j => match j with | (a, acc) => [(5, .int .i64 (a : Nat)), (4, .own 1)]) (fun j => match j with | (a, acc) => [(1, ⟨false, 9, 1, acc.map strC⟩)]) (fun j => match j with | (a, acc) => b.length - a) (0, []) ⟨by first | (simp_all <;> fail) | rfl | fail, by first | rfl | (simp_all <;> fail) | fail, trivial⟩ ⟨by first | rfl | exact congrArg (fun e => some (AObj.mk _ _ _ e)) (by rw [List.map_append]; rfl) | fail | fail, trivial⟩ (by (try dsimp only); first | (exact ⟨(FrInv.start b).1, FrInv.start b⟩) | fail) ?_; (conv => whnf); refine side_and (side_of (by first | exact fun ⟨a, acc⟩ => rfl | exact fun ⟨a, acc⟩ => by simp [headOk, closedE, closedO, closedL, AV.closed, hcap.closed, hasId, AObj.box, BK.ofB])) ?_; rintro ⟨a, acc⟩ hT; try dsimp only at hT))
 | (refine Again_of (frE b a, acc ++ [frS b a]) ⟨by first | rfl | exact i64_next (by omega) | (simp_all <;> fail) | fail, by first | rfl | (simp_all <;> fail) | fail, trivial⟩ ⟨by first | rfl | exact congrArg (fun e => some (AObj.mk _ _ _ e)) (by rw [List.map_append]; rfl) | fail | fail, trivial⟩ (by first | (and_intros <;> first | rfl | trivial) | fail) (by first | (and_intros <;> first | rfl | trivial) | fail) rfl rfl rfl (by (try dsimp only); first | (exact ⟨(hT.2.next hf).1, hT.2.next hf⟩) | fail) (show _ < _ by (try dsimp only); omega))
 | ((rcases hf : frOk b a with _ | _ <;> first | refine Call0 (c_spec_l6Read_no b a hT.1.1 hb hf) rfl rfl ?_ | (have he := frE_lt hf; refine Call0 (c_spec_l6Read_yes b a hT.1.1 hb hf) rfl rfl ?_)))
 | fail
  all_goals
    conv => whnf
    first
    | (exfalso; omega)
    | (have q := hT.2.stop hf; rw [q.1, q.2]; exact OutA_ids rfl rfl rfl ⟨⟨_, _, _, rfl, rfl⟩, trivial⟩ rfl (.inr (flat_one (flat_map (fun _ => rfl) _))))
def okDsk (d : DiskT) : Bool := decide ((d.Kept.length : Int) + d.Loose.length ≤ 50000)
theorem c_impl_GoodDisk (d : DiskT) (hw : d.w ≤ 1048576) : PC Tryz.prog false 151 [.agg d.cells] (.bool (okDsk d)) [] := by
  have h0 : d.w = d.Kept.length + d.Loose.length := rfl
  have h1 : IntKind.i64.wrap ((d.Kept.length : Int) + d.Loose.length) = (d.Kept.length : Int) + d.Loose.length := i64w (by omega) (by omega)
  refine pc_at Tryz.func151 rfl (by kernel_rfl) 11 [.tmp 2] rfl rfl ?_
  repeat' (conv => whnf); first
 | (refine nameB_dec (fun h => ?_) (fun h => ?_) <;> try simp only [lensB] at h)
 | refine side_and (side_of (by first | exact Nat.le_of_ble_eq_true rfl | exact rfl | omega | fail)) ?_
 | fail
  all_goals
    conv => whnf
    refine OutA_plain rfl rfl ?_
    unfold okDsk
    rw [← h1]
    first | (rw [decide_eq_true (by assumption)]; rfl) | (rw [decide_eq_false (by assumption)]; rfl)
theorem c_spec_GoodDisk (d : DiskT) (hw : d.w ≤ 1048576) : PC Tryz.prog false 88 [.agg d.cells] (.bool (okDsk d)) [] := by
  have h0 : d.w = d.Kept.length + d.Loose.length := rfl
  have h1 : IntKind.i64.wrap ((d.Kept.length : Int) + d.Loose.length) = (d.Kept.length : Int) + d.Loose.length := i64w (by omega) (by omega)
  refine pc_at Tryz.func88 rfl (by kernel_rfl) 11 [.tmp 2] rfl rfl ?_
  repeat' (conv => whnf); first
 | (refine nameB_dec (fun h => ?_) (fun h => ?_) <;> try simp only [lensB] at h)
 | refine side_and (side_of (by first | exact Nat.le_of_ble_eq_true rfl | exact rfl | omega | fail)) ?_
 | fail
  all_goals
    conv => whnf
    refine OutA_plain rfl rfl ?_
    unfold okDsk
    rw [← h1]
    first | (rw [decide_eq_true (by assumption)]; rfl) | (rw [decide_eq_false (by assumption)]; rfl)
theorem app_S {L M : List (List AV)} {b : Nat} (hM : M.length = 1) (hL : L.length ≤ 1048576) (hb : b ≤ 4096) : L.length + M.length ≤ 70368744177664 ∧ (L.length + M.length) * b ≤ 140737488355328 := by
  rw [hM]
  exact ⟨by omega, Nat.le_trans (Nat.mul_le_mul (Nat.succ_le_succ hL) hb) (Nat.le_of_ble_eq_true rfl)⟩
def dskB (d : DiskT) : List UInt8 := d.Kept ++ d.Loose
def entC (s : List UInt8) : List AV := (outE s).cells
theorem entC_map {fs : List (List UInt8)} : fs.map entC = (fs.map outE).map EntryT.cells := by
  rw [List.map_map]
  rfl
theorem dskB_len (d : DiskT) : (dskB d).length = d.w := List.length_append
theorem c_impl_ReadEntry_deep (b : List UInt8) (hb : b.length ≤ 1073741824) : PC Tryz.prog false 148 [.str b] (.tup [.agg [.int .i64 (outE b).Term, .int .i64 (outE b).Rec.Kind, .int .i64 (outE b).Rec.Txn, .int .i64 (outE b).Rec.Time, .int .i64 (outE b).Rec.Lead, .own 0, .own 1, .bool (outE b).Rec.Yes], .bool (okE b)]) [⟨.deep [.leaf], 9, 1, (outE b).Rec.Reads.map strC⟩, ⟨.deep WriteT.shp, 154, 3, (outE b).Rec.Writes.map WriteT.cells⟩] :=
  (c_impl_ReadEntry b hb).prom ⟨_, _, rfl, .inr ⟨[.leaf], rfl, rfl, prom_map (fun _ => rfl)⟩, _, _, rfl, .inr ⟨WriteT.shp, rfl, rfl, prom_map (fun _ => rfl)⟩, rfl⟩
theorem ix_strs {fs : List (List UInt8)} {n : Nat} {Q : List AV → Prop} (h : n < fs.length) (hQ : ∀ x, fs[n]? = some x → Q (strC x)) : ∃ e, (fs.map strC)[n]? = some e ∧ Q e := ⟨strC fs[n], by simp [h], hQ _ (by simp [h])⟩
theorem okAll_next {fs : List (List UInt8)} {k : Nat} {x : List UInt8} (h : ∀ s ∈ fs.take k, okE s = true) (hx : fs[k]? = some x) (hq : okE x = true) : ∀ s ∈ fs.take (k + 1), okE s = true := by
  rw [take_get hx]
  intro s hs
  rcases List.mem_append.1 hs with hs | hs
  · exact h s hs
  · rw [List.mem_singleton.1 hs]; exact hq
theorem all_bad' {fs : List (List UInt8)} {k : Nat} {x : List UInt8} (hx : fs[k]? = some x) (hq : okE x = false) : fs.all okE = false := by
  cases h : fs.all okE with
  | false => rfl
  | true =>
    rw [List.all_eq_true] at h
    rw [h x (List.mem_of_getElem? hx)] at hq
    cases hq
theorem all_good' {fs : List (List UInt8)} {k : Nat} (h : ∀ s ∈ fs.take k, okE s = true) (hk : fs.length ≤ k) : fs.all okE = true := by
  rw [List.take_of_length_le hk] at h
  exact List.all_eq_true.2 h
theorem c_impl_onDisk_yes (d : DiskT) (hw : d.w ≤ 100000) (hall : (frames (dskB d) 0).1.all okE = true) : PC Tryz.prog false 100 [.agg d.cells] (.tup [.own 0, .int .i64 ((frames (dskB d) 0).2 : Nat), .bool true]) [⟨.deep EntryT.shp, 124, 8, ((frames (dskB d) 0).1.map outE).map EntryT.cells⟩] := by
  have h0 : d.w = d.Kept.length + d.Loose.length := rfl
  have hl := dskB_len d
  obtain ⟨f1, f2, f3⟩ := frames_ok (b := dskB d)
  refine pc_at Tryz.func100 rfl (by kernel_rfl) 42 [.tmp 2, .tmp 3, .tmp 4] rfl rfl ?_
  repeat' (conv => whnf); first
 | (refine ix_strs (fs := (frames (dskB d) 0).1) (by omega) (fun x hx => ?_))
 | (refine nameB_cases (b := okE x) (fun h => ?_) (fun h => ?_))
 | refine nameB_true ?_
 | refine nameB_false ?_
 | (refine nameB_dec (fun h => ?_) (fun h => ?_) <;> try simp only [lensB] at h)
 | refine splitB_true ?_
 | refine splitB_false ?_
 | ((refine Loop_nil 7 1 124 8 rfl rfl (by decide) ?_; refine Loop_prom [(1, EntryT.shp)] ⟨⟨_, _, _, rfl, by first | exact prom_nil | exact prom_rep rfl | exact prom_map (fun _ => rfl) | exact prom_one rfl⟩, trivial⟩ ?_; refine Loop_at [6, 22, 23] [0, 4176] (Nat) (fun k => (∀ s ∈ (frames (dskB d) 0).1.take k, okE s = true) ∧ k ≤ (frames (dskB d) 0).1.length) (fun k => [(24, .int .i64 (k : Nat)), (7, .own 1)]) (fun k => [(1, ⟨.deep EntryT.shp, 124, 8, ((frames (dskB d) 0).1.take k).map entC⟩)]) (fun k => (frames (dskB d) 0).1.length - k) 0 ⟨by first | (simp_all <;> fail) | rfl | fail, by first | rfl | (simp_all <;> fail) | fail, trivial⟩ ⟨by first | rfl | exact congrArg (fun e => some (AObj.mk _ _ _ e)) (app_snoc hx rfl) | fail | fail, trivial⟩ (by (try dsimp only); first | (exact ⟨fun s hs => by simp at hs, Nat.zero_le _⟩) | fail) ?_; (conv => whnf); refine side_and (side_of (by first | exact fun k => rfl | exact fun k => by simp [headOk, closedE, closedO, closedL, AV.closed, hcap.closed, hasId, AObj.box, BK.ofB])) ?_; rintro k hT; try dsimp only at hT))
 | (refine Again_of (k + 1) ⟨by first | rfl | exact i64_next (by omega) | (simp_all <;> fail) | fail, by first | rfl | (simp_all <;> fail) | fail, trivial⟩ ⟨by first | rfl | exact congrArg (fun e => some (AObj.mk _ _ _ e)) (app_snoc hx rfl) | fail | fail, trivial⟩ (by first | (and_intros <;> first | rfl | trivial) | fail) (by first | (and_intros <;> first | rfl | trivial) | fail) rfl rfl rfl (by (try dsimp only); first | (exact ⟨okAll_next hT.1 hx (by assumption), by omega⟩) | fail) (show _ < _ by (try dsimp only); omega))
 | refine CallF (c_impl_framesOf (dskB d) (by omega)) rfl rfl rfl (Nat.le_of_ble_eq_true rfl) ?_
 | refine CallF (c_impl_ReadEntry_deep x (by have := f3 x (List.mem_of_getElem? hx); omega)) rfl rfl rfl (Nat.le_of_ble_eq_true rfl) ?_
 | refine side_and (side_of (by first | exact ⟨Nat.le_of_ble_eq_true rfl, rfl⟩ | fail)) ?_
 | refine side_and (side_of (by first | exact Nat.le_of_ble_eq_true rfl | exact rfl | omega | fail)) ?_
 | refine side_and (side_of (by first | (and_intros <;> first | rfl | omega | exact Nat.le_of_ble_eq_true rfl) | fail)) ?_
 | refine side_and (side_of (by first | (and_intros <;> first | exact Nat.le_of_ble_eq_true rfl | rfl | omega | (simp only [lensB, lensC]; omega) | exact bytes_ok (Nat.le_of_ble_eq_true rfl) (by omega) (by simp only [lensB, lensC]; omega) | exact bytes_okN (Nat.le_of_ble_eq_true rfl) (by simp only [lensB, lensC]; omega)) | fail)) ?_
 | refine LoadK_of rfl rfl ?_
 | refine BuildD_of EntryT.shp rfl rfl rfl ?_
 | refine AppD_of rfl (by and_intros <;> first | rfl | decide) (deep_app (L := ((frames (dskB d) 0).1.take k).map entC) rfl rfl (by rw [List.length_map, List.length_take]; omega) (Nat.le_of_ble_eq_true rfl)) ?_
 | fail
  all_goals
    conv => whnf
    first
    | (exfalso; have q := all_bad' hx (by assumption); rw [q] at hall; cases hall)
    | exact OutA_deep rfl rfl rfl ⟨⟨congrArg (fun e => some (AObj.mk _ _ _ e)) ((congrArg (List.map entC) (List.take_of_length_le (by omega))).trans entC_map), rfl⟩, trivial⟩ rfl
theorem c_impl_onDisk_no (d : DiskT) (hw : d.w ≤ 100000) (hall : (frames (dskB d) 0).1.all okE = false) : PC Tryz.prog false 100 [.agg d.cells] (.tup [.nil, .int .i64 0, .bool false]) [] := by
  have h0 : d.w = d.Kept.length + d.Loose.length := rfl
  have hl := dskB_len d
  obtain ⟨f1, f2, f3⟩ := frames_ok (b := dskB d)
  refine pc_at Tryz.func100 rfl (by kernel_rfl) 42 [.tmp 2, .tmp 3, .tmp 4] rfl rfl ?_
  repeat' (conv => whnf); first
 | (refine ix_strs (fs := (frames (dskB d) 0).1) (by omega) (fun x hx => ?_))
 | (refine nameB_cases (b := okE x) (fun h => ?_) (fun h => ?_))
 | refine nameB_true ?_
 | refine nameB_false ?_
 | (refine nameB_dec (fun h => ?_) (fun h => ?_) <;> try simp only [lensB] at h)
 | refine splitB_true ?_
 | refine splitB_false ?_
 | ((refine Loop_nil 7 1 124 8 rfl rfl (by decide) ?_; refine Loop_prom [(1, EntryT.shp)] ⟨⟨_, _, _, rfl, by first | exact prom_nil | exact prom_rep rfl | exact prom_map (fun _ => rfl) | exact prom_one rfl⟩, trivial⟩ ?_; refine Loop_at [6, 22, 23] [0, 4176] (Nat) (fun k => (∀ s ∈ (frames (dskB d) 0).1.take k, okE s = true) ∧ k ≤ (frames (dskB d) 0).1.length) (fun k => [(24, .int .i64 (k : Nat)), (7, .own 1)]) (fun k => [(1, ⟨.deep EntryT.shp, 124, 8, ((frames (dskB d) 0).1.take k).map entC⟩)]) (fun k => (frames (dskB d) 0).1.length - k) 0 ⟨by first | (simp_all <;> fail) | rfl | fail, by first | rfl | (simp_all <;> fail) | fail, trivial⟩ ⟨by first | rfl | exact congrArg (fun e => some (AObj.mk _ _ _ e)) (app_snoc hx rfl) | fail | fail, trivial⟩ (by (try dsimp only); first | (exact ⟨fun s hs => by simp at hs, Nat.zero_le _⟩) | fail) ?_; (conv => whnf); refine side_and (side_of (by first | exact fun k => rfl | exact fun k => by simp [headOk, closedE, closedO, closedL, AV.closed, hcap.closed, hasId, AObj.box, BK.ofB])) ?_; rintro k hT; try dsimp only at hT))
 | (refine Again_of (k + 1) ⟨by first | rfl | exact i64_next (by omega) | (simp_all <;> fail) | fail, by first | rfl | (simp_all <;> fail) | fail, trivial⟩ ⟨by first | rfl | exact congrArg (fun e => some (AObj.mk _ _ _ e)) (app_snoc hx rfl) | fail | fail, trivial⟩ (by first | (and_intros <;> first | rfl | trivial) | fail) (by first | (and_intros <;> first | rfl | trivial) | fail) rfl rfl rfl (by (try dsimp only); first | (exact ⟨okAll_next hT.1 hx (by assumption), by omega⟩) | fail) (show _ < _ by (try dsimp only); omega))
 | refine CallF (c_impl_framesOf (dskB d) (by omega)) rfl rfl rfl (Nat.le_of_ble_eq_true rfl) ?_
 | refine CallF (c_impl_ReadEntry_deep x (by have := f3 x (List.mem_of_getElem? hx); omega)) rfl rfl rfl (Nat.le_of_ble_eq_true rfl) ?_
 | refine side_and (side_of (by first | exact ⟨Nat.le_of_ble_eq_true rfl, rfl⟩ | fail)) ?_
 | refine side_and (side_of (by first | exact Nat.le_of_ble_eq_true rfl | exact rfl | omega | fail)) ?_
 | refine side_and (side_of (by first | (and_intros <;> first | rfl | omega | exact Nat.le_of_ble_eq_true rfl) | fail)) ?_
 | refine side_and (side_of (by first | (and_intros <;> first | exact Nat.le_of_ble_eq_true rfl | rfl | omega | (simp only [lensB, lensC]; omega) | exact bytes_ok (Nat.le_of_ble_eq_true rfl) (by omega) (by simp only [lensB, lensC]; omega) | exact bytes_okN (Nat.le_of_ble_eq_true rfl) (by simp only [lensB, lensC]; omega)) | fail)) ?_
 | refine LoadK_of rfl rfl ?_
 | refine BuildD_of EntryT.shp rfl rfl rfl ?_
 | refine AppD_of rfl (by and_intros <;> first | rfl | decide) (deep_app (L := ((frames (dskB d) 0).1.take k).map entC) rfl rfl (by rw [List.length_map, List.length_take]; omega) (Nat.le_of_ble_eq_true rfl)) ?_
 | fail
  all_goals
    conv => whnf
    first
    | (exfalso; have q := all_good' hT.1 (by omega); rw [q] at hall; cases hall)
    | exact OutA_plain rfl rfl rfl
def dskL (d : DiskT) : List (List UInt8) := match okDsk d with | true => (frames (dskB d) 0).1 | false => []
def dskN (d : DiskT) : Nat := match okDsk d with | true => (frames (dskB d) 0).2 | false => 0
def okOnD (d : DiskT) : Bool := okDsk d && (frames (dskB d) 0).1.all okE
def onD (d : DiskT) : List EntryT := match okOnD d with | true => (frames (dskB d) 0).1.map outE | false => []
theorem onD_yes {d : DiskT} (h : okOnD d = true) : onD d = (frames (dskB d) 0).1.map outE := by unfold onD; rw [h]
theorem onD_no {d : DiskT} (h : okOnD d = false) : onD d = [] := by unfold onD; rw [h]
theorem okDsk_w {d : DiskT} (h : okDsk d = true) : d.w ≤ 50000 := by
  unfold okDsk at h
  have := of_decide_eq_true h
  show d.Kept.length + d.Loose.length ≤ 50000
  omega
theorem dskL_yes {d : DiskT} (h : okDsk d = true) : dskL d = (frames (dskB d) 0).1 ∧ dskN d = (frames (dskB d) 0).2 := by unfold dskL dskN; rw [h]; exact ⟨rfl, rfl⟩
theorem dskL_no {d : DiskT} (h : okDsk d = false) : dskL d = [] ∧ dskN d = 0 := by unfold dskL dskN; rw [h]; exact ⟨rfl, rfl⟩
theorem c_spec_FramesOn (d : DiskT) (hw : d.w ≤ 1048576) : PC Tryz.prog false 95 [.agg d.cells] (.tup [.own 0, .int .i64 (dskN d : Nat), .bool (okDsk d)]) [⟨false, 9, 1, (dskL d).map strC⟩] := by
  have h0 : d.w = d.Kept.length + d.Loose.length := rfl
  have hl := dskB_len d
  cases h1 : okDsk d with
  | false =>
    rw [(dskL_no h1).1, (dskL_no h1).2]
    refine pc_at Tryz.func95 rfl (by kernel_rfl) 22 [.tmp 2, .tmp 3, .tmp 4] rfl rfl ?_
    repeat' (conv => whnf); first
 | refine nameB_no (b := okDsk d) h1 ?_
 | refine nameB_true ?_
 | refine splitB_true ?_
 | refine Call0 (c_spec_GoodDisk d hw) rfl rfl ?_
 | refine side_and (side_of (by first | exact ⟨Nat.le_of_ble_eq_true rfl, rfl⟩ | fail)) ?_
 | refine side_and (side_of (by first | exact Nat.le_of_ble_eq_true rfl | exact rfl | omega | fail)) ?_
 | fail
    all_goals
      conv => whnf
      exact OutA_nil 2 1 9 1 rfl rfl (by decide) (OutA_ids rfl rfl rfl ⟨⟨_, _, _, rfl, rfl⟩, trivial⟩ rfl (.inr (flat_one rfl)))
  | true =>
    have hw2 := okDsk_w h1
    rw [(dskL_yes h1).1, (dskL_yes h1).2]
    refine pc_at Tryz.func95 rfl (by kernel_rfl) 22 [.tmp 2, .tmp 3, .tmp 4] rfl rfl ?_
    repeat' (conv => whnf); first
 | refine nameB_yes (b := okDsk d) h1 ?_
 | refine nameB_false ?_
 | refine splitB_false ?_
 | refine Call0 (c_spec_GoodDisk d hw) rfl rfl ?_
 | refine CallF (c_spec_l6Frames (dskB d) (by omega)) rfl rfl rfl (Nat.le_of_ble_eq_true rfl) ?_
 | refine side_and (side_of (by first | exact Nat.le_of_ble_eq_true rfl | exact rfl | omega | fail)) ?_
 | fail
    all_goals
      conv => whnf
      exact OutA_ids rfl rfl rfl ⟨⟨_, _, _, rfl, rfl⟩, trivial⟩ rfl (.inr (flat_one (flat_map (fun _ => rfl) _)))
theorem dskL_ok (d : DiskT) : (dskL d).length ≤ 50000 ∧ ∀ s ∈ dskL d, s.length ≤ 700 := by
  cases h1 : okDsk d with
  | false => rw [(dskL_no h1).1]; exact ⟨Nat.zero_le _, fun s hs => by cases hs⟩
  | true =>
    have hw2 := okDsk_w h1
    have hl := dskB_len d
    obtain ⟨f1, f2, f3⟩ := frames_ok (b := dskB d)
    rw [(dskL_yes h1).1]
    exact ⟨by omega, f3⟩
theorem okOnD_bad {d : DiskT} {k : Nat} {x : List UInt8} (hx : (dskL d)[k]? = some x) (hq : okE x = false) : okOnD d = false := by
  unfold okOnD
  cases h1 : okDsk d with
  | false => rfl
  | true =>
    rw [(dskL_yes h1).1] at hx
    rw [all_bad' hx hq]
    rfl
theorem onD_end {d : DiskT} {k : Nat} (h : ∀ s ∈ (dskL d).take k, okE s = true) (hk : (dskL d).length ≤ k) : AV.tup [.sl (((dskL d).take k).map entC), .bool (okDsk d)] = .tup [.sl ((onD d).map EntryT.cells), .bool (okOnD d)] := by
  have h2 := all_good' h hk
  rw [List.take_of_length_le hk, entC_map]
  cases h1 : okDsk d with
  | false =>
    have e : okOnD d = false := by unfold okOnD; rw [h1]; rfl
    rw [onD_no e, e, (dskL_no h1).1]
    rfl
  | true =>
    rw [(dskL_yes h1).1] at h2 ⊢
    have e : okOnD d = true := by unfold okOnD; rw [h1, h2]; rfl
    rw [onD_yes e, e]
theorem c_spec_OnDisk (d : DiskT) (hw : d.w ≤ 1048576) : PC Tryz.prog true 49 [.agg d.cells] (.tup [.sl ((onD d).map EntryT.cells), .bool (okOnD d)]) [] := by
  obtain ⟨f2, f3⟩ := dskL_ok d
  refine pc_at Tryz.func49 rfl (by kernel_rfl) 41 [.tmp 2, .tmp 3] rfl rfl ?_
  repeat' (conv => whnf); first
 | (refine ix_strs (fs := dskL d) (by omega) (fun x hx => ?_))
 | (refine nameB_cases (b := okE x) (fun h => ?_) (fun h => ?_))
 | refine side_and (side_of (app_S (L := ((dskL d).take k).map entC) rfl (by rw [List.length_map, List.length_take]; omega) (Nat.le_of_ble_eq_true rfl))) ?_
 | refine side_and (side_of (one_lenC rfl rfl)) ?_
 | refine side_and (side_of (by first | (and_intros <;> first | exact Nat.le_of_ble_eq_true rfl | rfl | (intro e; exact absurd (AV.own.inj e) (by decide)) | (intro e; exact AV.noConfusion e)) | fail)) ?_
 | refine nameB_true ?_
 | refine nameB_false ?_
 | (refine nameB_dec (fun h => ?_) (fun h => ?_) <;> try simp only [lensB] at h)
 | refine splitB_true ?_
 | refine splitB_false ?_
 | refine eitherB_l ?_
 | ((refine Loop_nil 4 1 124 8 rfl rfl (by decide) ?_; refine Loop_at [5, 7] [0, 8208] (Nat) (fun k => (∀ s ∈ (dskL d).take k, okE s = true) ∧ k ≤ (dskL d).length) (fun k => [(8, .int .i64 (k : Nat)), (4, .own 1)]) (fun k => [(1, ⟨false, 124, 8, ((dskL d).take k).map entC⟩)]) (fun k => (dskL d).length - k) 0 ⟨by first | (simp_all <;> fail) | rfl | fail, by first | rfl | (simp_all <;> fail) | fail, trivial⟩ ⟨by first | rfl | exact congrArg (fun e => some (AObj.mk _ _ _ e)) (app_snoc hx rfl) | fail | fail, trivial⟩ (by (try dsimp only); first | (exact ⟨fun s hs => by simp at hs, Nat.zero_le _⟩) | fail) ?_; (conv => whnf); refine side_and (side_of (by first | exact fun k => rfl | exact fun k => by simp [headOk, closedE, closedO, closedL, AV.closed, hcap.closed, hasId, AObj.box, BK.ofB])) ?_; rintro k hT; try dsimp only at hT))
 | (refine Again_of (k + 1) ⟨by first | rfl | exact i64_next (by omega) | (simp_all <;> fail) | fail, by first | rfl | (simp_all <;> fail) | fail, trivial⟩ ⟨by first | rfl | exact congrArg (fun e => some (AObj.mk _ _ _ e)) (app_snoc hx rfl) | fail | fail, trivial⟩ (by first | (and_intros <;> first | rfl | trivial) | fail) (by first | (and_intros <;> first | rfl | trivial) | fail) rfl rfl rfl (by (try dsimp only); first | (exact ⟨okAll_next hT.1 hx (by assumption), by omega⟩) | fail) (show _ < _ by (try dsimp only); omega))
 | refine CallF (c_spec_FramesOn d hw) rfl rfl rfl (Nat.le_of_ble_eq_true rfl) ?_
 | refine CallF (c_spec_ReadEntry x (by have := f3 x (List.mem_of_getElem? hx); omega)) rfl rfl rfl (Nat.le_of_ble_eq_true rfl) ?_
 | refine side_and (side_of (by first | (and_intros <;> first | exact Nat.le_of_ble_eq_true rfl | rfl | omega | (simp only [lensB, lensC]; omega) | exact bytes_ok (Nat.le_of_ble_eq_true rfl) (by omega) (by simp only [lensB, lensC]; omega) | exact bytes_okN (Nat.le_of_ble_eq_true rfl) (by simp only [lensB, lensC]; omega)) | fail)) ?_
 | refine LoadK_of rfl rfl ?_
 | fail
  all_goals
    conv => whnf
    first
    | (have e := okOnD_bad hx (by assumption); rw [onD_no e, e]; exact OutA_nilS 2 rfl (by (conv => whnf); exact OutA_plain rfl rfl rfl))
    | (refine OutA_frz [1] ?_
       conv => whnf
       exact OutA_plain rfl rfl (onD_end hT.1 (by omega)))
theorem onD_ok (d : DiskT) : okL EntryT.ok (onD d) ∧ cntL EntryT.cnt (onD d) ≤ 1000000000000000 := by
  cases h : okOnD d with
  | false => rw [onD_no h]; exact ⟨⟨Nat.zero_le _, fun _ h => by cases h⟩, Nat.zero_le _⟩
  | true =>
    have h1 : okDsk d = true := by unfold okOnD at h; rw [Bool.and_eq_true] at h; exact h.1
    have hw2 := okDsk_w h1
    have hl := dskB_len d
    obtain ⟨f1, f2, f3⟩ := frames_ok (b := dskB d)
    rw [onD_yes h]
    generalize (frames (dskB d) 0).1 = fs at f2
    refine ⟨⟨by rw [List.length_map]; omega, fun x hx => ?_⟩, ?_⟩
    · obtain ⟨y, _, rfl⟩ := List.mem_map.1 hx
      exact small_ok outE_small
    · have key : ∀ fs : List (List UInt8), cntL EntryT.cnt (fs.map outE) ≤ fs.length * 200000000 := by
        intro fs
        induction fs with
        | nil => exact Nat.zero_le _
        | cons x xs ih =>
          have h3 := EntryT.cnt_w (outE x)
          have h4 : EntryT.w (outE x) ≤ 1048576 := outE_small.w
          simp only [cntL, List.map_cons, List.sum_cons, List.length_cons] at ih ⊢
          omega
      have := key fs
      have : fs.length * 200000000 ≤ 50000 * 200000000 := Nat.mul_le_mul_right _ (by omega)
      omega
def fitsL (term : Int) (r : ReplicaT) (L : List EntryT) (n k : Nat) : Bool :=
  match r.Up with
  | true => decide (L = r.Log) && decide ((n : Int) = (k : Int))
  | false => preE L r.Log && (decide ((L.length : Int) = (r.Log.length : Int)) || (decide ((L.length : Int) = (r.Log.length : Int) + 1) && inB (lastE r.Log) (lastE L) term))
def mendB (d : DiskT) : Bool := okDsk d && decide (d.Loose = [])
def fitsD (term : Int) (r : ReplicaT) (d : DiskT) : Bool := (mendB d && (frames d.Kept 0).1.all okE) && fitsL term r ((frames d.Kept 0).1.map outE) (frames d.Kept 0).2 d.Kept.length
theorem mendB_of {d : DiskT} (h : mendB d = true) : okDsk d = true ∧ d.Loose = [] ∧ dskB d = d.Kept := by
  unfold mendB at h
  rw [Bool.and_eq_true, decide_eq_true_eq] at h
  exact ⟨h.1, h.2, by unfold dskB; rw [h.2, List.append_nil]⟩
theorem c_impl_isMendable (d : DiskT) (hw : d.w ≤ 1048576) : PC Tryz.prog false 115 [.agg d.cells] (.bool (mendB d)) [] := by
  refine pc_at Tryz.func115 rfl (by kernel_rfl) 10 [.tmp 2] rfl rfl ?_
  repeat' (conv => whnf); first
 | (refine nameB_cases (b := okDsk d) (fun h => ?_) (fun h => ?_))
 | (refine nameB_cases (fun h => ?_) (fun h => ?_) <;> try simp only [nmL, lensB] at h)
 | refine splitB_true ?_
 | refine splitB_false ?_
 | refine Call0 (c_impl_GoodDisk d hw) rfl rfl ?_
 | refine side_and (side_of (by first | exact Nat.le_of_ble_eq_true rfl | exact rfl | omega | fail)) ?_
 | fail
  all_goals
    conv => whnf
    refine OutA_plain rfl rfl ?_
    first
    | (rw [mendB, (by assumption : okDsk d = true), decide_eq_true (by assumption)]; rfl)
    | (rw [mendB, (by assumption : okDsk d = true), decide_eq_false (by assumption)]; rfl)
    | (rw [mendB, (by assumption : okDsk d = false)]; rfl)
theorem preE_le {a b : List EntryT} (h : preE a b = true) : b.length ≤ a.length := by
  unfold preE at h
  have := of_decide_eq_true h
  have h2 := congrArg List.length this
  rw [List.length_take] at h2
  omega
theorem c_impl_fits_no (g : GroupT) (r : ReplicaT) (d : DiskT) (hd : d.w ≤ 1048576) (hm : mendB d = false) : PC Tryz.prog false 66 [.agg g.cells, .agg r.cells, .agg d.cells] (.bool false) [] := by
  refine pc_at Tryz.func66 rfl (by kernel_rfl) 64 [.tmp 6] rfl rfl ?_
  repeat' (conv => whnf); first
 | refine nameB_no (b := mendB d) hm ?_
 | refine nameB_true ?_
 | refine splitB_true ?_
 | refine Call0 (c_impl_isMendable d hd) rfl rfl ?_
 | refine side_and (side_of (by first | exact Nat.le_of_ble_eq_true rfl | exact rfl | omega | fail)) ?_
 | fail
  all_goals
    conv => whnf
    exact OutA_plain rfl rfl rfl
theorem c_impl_fits_bad (g : GroupT) (r : ReplicaT) (d : DiskT) (hd : d.w ≤ 1048576) (hm : mendB d = true) (hb : PC Tryz.prog false 100 [.agg d.cells] (.tup [.nil, .int .i64 0, .bool false]) []) : PC Tryz.prog false 66 [.agg g.cells, .agg r.cells, .agg d.cells] (.bool false) [] := by
  refine pc_at Tryz.func66 rfl (by kernel_rfl) 64 [.tmp 6] rfl rfl ?_
  repeat' (conv => whnf); first
 | refine nameB_yes (b := mendB d) hm ?_
 | refine nameB_true ?_
 | refine nameB_false ?_
 | refine splitB_true ?_
 | refine splitB_false ?_
 | refine Call0 (c_impl_isMendable d hd) rfl rfl ?_
 | refine Call0 (hb) rfl rfl ?_
 | refine side_and (side_of (by first | exact Nat.le_of_ble_eq_true rfl | exact rfl | omega | fail)) ?_
 | fail
  all_goals
    conv => whnf
    exact OutA_plain rfl rfl rfl
theorem c_impl_fits_up (g : GroupT) (r : ReplicaT) (d : DiskT) (L : List EntryT) (n : Nat) (hu : r.Up = true) (hL : okL EntryT.ok L) (hd : d.w ≤ 1048576) (hm : mendB d = true) (hb : PC Tryz.prog false 100 [.agg d.cells] (.tup [.own 0, .int .i64 (n : Nat), .bool true]) [⟨.deep EntryT.shp, 124, 8, L.map EntryT.cells⟩]) : PC Tryz.prog false 66 [.agg g.cells, .agg r.cells, .agg d.cells] (.bool (fitsL g.Term r L n d.Kept.length)) [] := by
  refine pc_at Tryz.func66 rfl (by kernel_rfl) 64 [.tmp 6] rfl rfl ?_
  repeat' (conv => whnf); first
 | refine nameB_yes (b := mendB d) hm ?_
 | refine nameB_yes (b := r.Up) hu ?_
 | refine nameB_false ?_
 | (refine nameB_dec (fun h => ?_) (fun h => ?_) <;> try simp only [lensB] at h)
 | refine splitB_true ?_
 | refine splitB_false ?_
 | refine Call0 (c_impl_isMendable d hd) rfl rfl ?_
 | refine CallF (hb) rfl rfl rfl (Nat.le_of_ble_eq_true rfl) ?_
 | refine Call0 (c_impl_sameEntries L r.Log hL) rfl rfl ?_
 | refine side_and (side_of (by first | exact Nat.le_of_ble_eq_true rfl | exact rfl | omega | fail)) ?_
 | fail
  all_goals
    conv => whnf
    refine OutA_plain rfl rfl ?_
    unfold fitsL
    rw [hu]
    first
    | (rw [decide_eq_false (show ¬ L = r.Log by assumption)]; rfl)
    | (rw [decide_eq_true (show L = r.Log by assumption), decide_eq_true (by assumption)]; rfl)
    | (rw [decide_eq_true (show L = r.Log by assumption), decide_eq_false (by assumption)]; rfl)
    | rfl
theorem c_impl_fits_down (g : GroupT) (r : ReplicaT) (d : DiskT) (L : List EntryT) (n : Nat) (hu : r.Up = false) (hL : okL EntryT.ok L) (hLl : L.length ≤ 1048575) (hr : r.Log.length ≤ 1048575) (hd : d.w ≤ 1048576) (hm : mendB d = true) (hb : PC Tryz.prog false 100 [.agg d.cells] (.tup [.own 0, .int .i64 (n : Nat), .bool true]) [⟨.deep EntryT.shp, 124, 8, L.map EntryT.cells⟩]) : PC Tryz.prog false 66 [.agg g.cells, .agg r.cells, .agg d.cells] (.bool (fitsL g.Term r L n d.Kept.length)) [] := by
  have hw : IntKind.i64.wrap ((r.Log.length : Int) + 1) = (r.Log.length : Int) + 1 := i64w (by omega) (by omega)
  refine pc_at Tryz.func66 rfl (by kernel_rfl) 64 [.tmp 6] rfl rfl ?_
  repeat' (conv => whnf); first
 | refine nameB_yes (b := mendB d) hm ?_
 | refine nameB_no (b := r.Up) hu ?_
 | (refine nameB_cases (b := preE L r.Log) (fun h => ?_) (fun h => ?_))
 | (rw [hw] at h)
 | refine nameB_true ?_
 | refine nameB_false ?_
 | (refine nameB_dec (fun h => ?_) (fun h => ?_) <;> try simp only [lensB] at h)
 | (refine nameB_cases (fun h => ?_) (fun h => ?_) <;> try simp only [nmL, lensB] at h)
 | refine splitB_true ?_
 | refine splitB_false ?_
 | refine draw_text (by kernel_rfl) (by kernel_rfl) (by kernel_rfl) ?_
 | refine Call0 (c_impl_isMendable d hd) rfl rfl ?_
 | refine CallF (hb) rfl rfl rfl (Nat.le_of_ble_eq_true rfl) ?_
 | refine Call0 (c_impl_hasPrefix L r.Log hL (by omega)) rfl rfl ?_
 | refine CallD0 (c_impl_lastTerm L (by omega)) rfl rfl rfl ?_
 | refine CallD0 (c_impl_lastTerm r.Log (by omega)) rfl rfl rfl ?_
 | refine CallD0 (c_impl_within ..) rfl rfl rfl ?_
 | refine side_and (side_of (by first | exact Nat.le_of_ble_eq_true rfl | exact rfl | omega | fail)) ?_
 | fail
  all_goals
    conv => whnf
    refine OutA_plain rfl rfl ?_
    unfold fitsL
    rw [hu]
    first
    | (rw [(by assumption : preE L r.Log = false)]; rfl)
    | (have q := preE_le (by assumption : preE L r.Log = true)
       rw [(by assumption : preE L r.Log = true)]
       first
       | (rw [decide_eq_true (by assumption : (L.length : Int) = (r.Log.length : Int))]; rfl)
       | (rw [decide_eq_false (show ¬ (L.length : Int) = (r.Log.length : Int) by omega), decide_eq_false (show ¬ (L.length : Int) = (r.Log.length : Int) + 1 by omega)]; rfl)
       | (rw [decide_eq_false (show ¬ (L.length : Int) = (r.Log.length : Int) by omega), decide_eq_true (show (L.length : Int) = (r.Log.length : Int) + 1 by omega), (by assumption : inB (lastE r.Log) (lastE L) g.Term = true)]; rfl)
       | (rw [decide_eq_false (show ¬ (L.length : Int) = (r.Log.length : Int) by omega), decide_eq_true (show (L.length : Int) = (r.Log.length : Int) + 1 by omega), (by assumption : inB (lastE r.Log) (lastE L) g.Term = false)]; rfl))
theorem c_impl_fitsDisk (g : GroupT) (r : ReplicaT) (d : DiskT) (hr : r.Log.length ≤ 1048575) (hd : d.w ≤ 1048576) : PC Tryz.prog false 66 [.agg g.cells, .agg r.cells, .agg d.cells] (.bool (fitsD g.Term r d)) [] := by
  cases hm : mendB d with
  | false =>
    have e : fitsD g.Term r d = false := by unfold fitsD; rw [hm]; rfl
    rw [e]
    exact c_impl_fits_no g r d hd hm
  | true =>
    obtain ⟨m1, m2, m3⟩ := mendB_of hm
    have hw2 := okDsk_w m1
    cases ha : (frames d.Kept 0).1.all okE with
    | false =>
      have e : fitsD g.Term r d = false := by unfold fitsD; rw [hm, ha]; rfl
      rw [e]
      exact c_impl_fits_bad g r d hd hm (c_impl_onDisk_no d (by omega) (by rw [m3]; exact ha))
    | true =>
      have e : fitsD g.Term r d = fitsL g.Term r ((frames d.Kept 0).1.map outE) (frames d.Kept 0).2 d.Kept.length := by unfold fitsD; rw [hm, ha]; rfl
      rw [e]
      have hy := c_impl_onDisk_yes d (by omega) (by rw [m3]; exact ha)
      rw [m3] at hy
      obtain ⟨f1, f2, f3⟩ := frames_ok (b := d.Kept)
      have hk : d.Kept.length ≤ 50000 := by have : d.w = d.Kept.length + d.Loose.length := rfl; omega
      have hL : okL EntryT.ok ((frames d.Kept 0).1.map outE) := ⟨by rw [List.length_map]; omega, fun x hx => by
        obtain ⟨z, _, rfl⟩ := List.mem_map.1 hx
        exact small_ok outE_small⟩
      cases hu : r.Up with
      | true => exact c_impl_fits_up g r d _ _ hu hL hd hm hy
      | false => exact c_impl_fits_down g r d _ _ hu hL (by rw [List.length_map]; omega) hr hd hm hy
theorem last_at {L : List EntryT} {y : EntryT} {m : Nat} (h : L[m]? = some y) (hl : L.length = m + 1) : lastE L = y.Term := by
  unfold lastE
  rw [List.getLast?_eq_getElem?, hl, Nat.add_sub_cancel, h]
def fitsS (term : Int) (r : ReplicaT) (d : DiskT) : Bool := ((okOnD d && decide (d.Loose = [])) && preE (onD d) r.Log) && fitsL term r (onD d) (frames d.Kept 0).2 d.Kept.length
theorem preE_self {a b : List EntryT} (h : a = b) : preE a b = true := by
  subst h
  unfold preE
  rw [List.take_length]
  exact decide_eq_true rfl
theorem fits_same {term : Int} {r : ReplicaT} {d : DiskT} : fitsS term r d = fitsD term r d := by
  unfold fitsS fitsD
  cases h1 : okDsk d with
  | false =>
    have e1 : okOnD d = false := by unfold okOnD; rw [h1]; rfl
    have e2 : mendB d = false := by unfold mendB; rw [h1]; rfl
    rw [e1, e2]
    rfl
  | true =>
    by_cases h2 : d.Loose = []
    · have e0 : dskB d = d.Kept := by unfold dskB; rw [h2, List.append_nil]
      have e1 : mendB d = true := by unfold mendB; rw [h1, decide_eq_true h2]; rfl
      have e2 : okOnD d = (frames d.Kept 0).1.all okE := by unfold okOnD; rw [h1, e0]; rfl
      rw [e1, e2, decide_eq_true h2]
      cases h3 : (frames d.Kept 0).1.all okE with
      | false => rfl
      | true =>
        have e3 : onD d = (frames d.Kept 0).1.map outE := by rw [onD_yes (by rw [e2]; exact h3), e0]
        rw [e3]
        generalize (frames d.Kept 0).1.map outE = L
        simp only [Bool.and_true, Bool.true_and]
        cases hp : preE L r.Log with
        | true => rfl
        | false =>
          unfold fitsL
          rw [Bool.false_and]
          cases r.Up with
          | true =>
            simp only
            rw [decide_eq_false (fun e => by rw [preE_self e] at hp; cases hp)]
            rfl
          | false =>
            simp only
            rw [hp]
            rfl
    · have e1 : mendB d = false := by unfold mendB; rw [decide_eq_false h2]; simp
      rw [e1, decide_eq_false h2]
      simp
theorem ix_ents {L : List EntryT} {n m : Nat} {Q : List AV → Prop} (e : n = m) (h : m < L.length) (hQ : ∀ x, L[m]? = some x → Q x.cells) : ∃ y, (L.map EntryT.cells)[n]? = some y ∧ Q y := by
  subst e
  exact ⟨EntryT.cells L[n], by simp [h], hQ _ (by simp [h])⟩
theorem preE_eq {a b : List EntryT} (h : preE a b = true) (hl : (a.length : Int) = (b.length : Int)) : a = b := by
  unfold preE at h
  have := of_decide_eq_true h
  rw [List.take_of_length_le (by omega)] at this
  exact this
theorem fitsS_no {term : Int} {r : ReplicaT} {d : DiskT} (h : okOnD d = false ∨ ¬ d.Loose = [] ∨ preE (onD d) r.Log = false) : fitsS term r d = false := by
  unfold fitsS
  rcases h with h | h | h
  · rw [h]; rfl
  · rw [decide_eq_false h]; simp
  · rw [h]; simp
theorem fitsS_val {term : Int} {r : ReplicaT} {d : DiskT} (h1 : okOnD d = true) (h2 : d.Loose = []) (h3 : preE (onD d) r.Log = true) : fitsS term r d = fitsL term r (onD d) (frames d.Kept 0).2 d.Kept.length := by
  unfold fitsS
  rw [h1, decide_eq_true h2, h3]
  rfl
theorem fits_up {term : Int} {r : ReplicaT} {L : List EntryT} {n k : Nat} (hu : r.Up = true) (hp : preE L r.Log = true) : (¬ (L.length : Int) = (r.Log.length : Int) → fitsL term r L n k = false) ∧ ((L.length : Int) = (r.Log.length : Int) → fitsL term r L n k = decide ((n : Int) = (k : Int))) := by
  unfold fitsL
  rw [hu]
  refine ⟨fun h => ?_, fun h => ?_⟩
  · simp only
    rw [decide_eq_false (fun e => h (by rw [e]))]
    rfl
  · simp only
    rw [decide_eq_true (preE_eq hp h)]
    rfl
theorem fits_down {term : Int} {r : ReplicaT} {L : List EntryT} {n k : Nat} (hu : r.Up = false) (hp : preE L r.Log = true) : ((L.length : Int) = (r.Log.length : Int) → fitsL term r L n k = true) ∧ (¬ (L.length : Int) = (r.Log.length : Int) → fitsL term r L n k = (decide ((L.length : Int) = (r.Log.length : Int) + 1) && inB (lastE r.Log) (lastE L) term)) := by
  unfold fitsL
  rw [hu]
  refine ⟨fun h => ?_, fun h => ?_⟩
  · simp only
    rw [hp, decide_eq_true h]
    rfl
  · simp only
    rw [hp, decide_eq_false h]
    rfl
theorem c_spec_l11Fits (d : DiskT) (r : ReplicaT) (term : Int) (hg : okDsk d = true) (hr : r.Log.length ≤ 1048575) : PC Tryz.prog true 89 [.agg d.cells, .agg r.cells, .int .i64 term] (.bool (fitsS term r d)) [] := by
  have hw2 := okDsk_w hg
  have hk : d.w = d.Kept.length + d.Loose.length := rfl
  obtain ⟨o1, o2⟩ := onD_ok d
  have o3 : (onD d).length ≤ 50000 := by
    cases h : okOnD d with
    | false => rw [onD_no h]; exact Nat.zero_le _
    | true =>
      rw [onD_yes h, List.length_map]
      have := (frames_ok (b := dskB d)).2.1
      have := dskB_len d
      omega
  have hw : IntKind.i64.wrap ((r.Log.length : Int) + 1) = (r.Log.length : Int) + 1 := i64w (by omega) (by omega)
  have hb := c_spec_l9Begins (onD d) r.Log r.Log.length o1 (by omega) (by omega) (Nat.le_refl _)
  rw [List.take_length] at hb
  refine pc_at Tryz.func89 rfl (by kernel_rfl) 88 [.tmp 6] rfl rfl ?_
  repeat' (conv => whnf); first
 | (rw [hw] at h)
 | (refine nameB_cases (b := okOnD d) (fun h => ?_) (fun h => ?_))
 | (refine nameB_cases (b := preE (onD d) r.Log) (fun h => ?_) (fun h => ?_))
 | (refine nameB_cases (b := r.Up) (fun h => ?_) (fun h => ?_))
 | refine ix_ents (m := r.Log.length) (by simp) (by omega) (fun y hy => ?_)
 | refine nameB_true ?_
 | refine nameB_false ?_
 | (refine nameB_dec (fun h => ?_) (fun h => ?_) <;> try simp only [lensB] at h)
 | (refine nameB_cases (fun h => ?_) (fun h => ?_) <;> try simp only [nmL, lensB] at h)
 | refine splitB_true ?_
 | refine splitB_false ?_
 | refine draw_text (by kernel_rfl) (by kernel_rfl) (by kernel_rfl) ?_
 | refine CallT (c_spec_OnDisk d (by omega)) rfl rfl rfl rfl (Nat.le_of_ble_eq_true rfl) ?_
 | refine CallF (c_spec_l6Frames d.Kept (by omega)) rfl rfl rfl (Nat.le_of_ble_eq_true rfl) ?_
 | refine Call0 hb (congrArg (fun z : Nat => [AV.sl ((onD d).map EntryT.cells), AV.sl (r.Log.map EntryT.cells), AV.int .i64 (z : Int)]) (List.length_map _)) rfl ?_
 | refine CallD0 (c_spec_l9Last r.Log (by omega)) rfl rfl rfl ?_
 | refine CallD0 (c_spec_l1In ..) rfl rfl rfl ?_
 | refine side_and (side_of (by first | exact Nat.le_of_ble_eq_true rfl | exact rfl | omega | fail)) ?_
 | refine LoadK_of rfl rfl ?_
 | fail
  all_goals
    conv => whnf
    refine OutA_plain rfl rfl ?_
    first
    | (rw [fitsS_no (by first | exact .inl (by assumption) | exact .inr (.inl (by assumption)) | exact .inr (.inr (by assumption)))]; rfl)
    | (exfalso; have q1 : r.Up = true := (by assumption); have q2 : r.Up = false := (by assumption); rw [q1] at q2; cases q2)
    | (exfalso; omega)
    | (rw [fitsS_val (by assumption) (by assumption) (by assumption), (fits_up (by assumption) (by assumption)).2 (by assumption), decide_eq_true (by assumption)]; rfl)
    | (rw [fitsS_val (by assumption) (by assumption) (by assumption), (fits_up (by assumption) (by assumption)).2 (by assumption), decide_eq_false (by assumption)]; rfl)
    | (rw [fitsS_val (by assumption) (by assumption) (by assumption), (fits_up (by assumption) (by assumption)).1 (by assumption)]; rfl)
    | (rw [fitsS_val (by assumption) (by assumption) (by assumption), (fits_down (by assumption) (by assumption)).1 (by assumption)]; rfl)
    | (rw [fitsS_val (by assumption) (by assumption) (by assumption), (fits_down (by assumption) (by assumption)).2 (by assumption), decide_eq_false (by assumption)]; rfl)
    | (have hla := last_at hy (by omega)
       rw [fitsS_val (by assumption) (by assumption) (by assumption), (fits_down (by assumption) (by assumption)).2 (by assumption), decide_eq_true (by assumption), hla]
       first | (rw [(by assumption : inB _ y.Term term = true)]; rfl) | (rw [(by assumption : inB _ y.Term term = false)]; rfl) | rfl)
theorem c_spec_l11Fits2 (d : DiskT) (r : ReplicaT) (term : Int) (hg : okDsk d = true) (hr : r.Log.length ≤ 1048575) : PC Tryz.prog true 89 [.agg d.cells, .agg r.cells, .int .i64 term] (.bool (fitsD term r d)) [] := by
  have := c_spec_l11Fits d r term hg hr
  rw [fits_same] at this
  exact this
theorem wL_memS {α : Type} {w : α → Nat} {xs : List α} {x : α} (h : x ∈ xs) : w x + 1 ≤ wL w xs := by
  induction xs with
  | nil => simp at h
  | cons y ys ih =>
    simp only [wL, List.map_cons, List.sum_cons, List.length_cons] at ih ⊢
    rcases List.mem_cons.1 h with rfl | h
    · omega
    · have := ih h
      omega
def pairF (term : Int) (p : ReplicaT × DiskT) : Bool := fitsD term p.1 p.2
def okHouse (h : HouseT) : Bool := (okGroup h.Group && decide ((h.Disks.length : Int) = (h.Group.Reps.length : Int))) && (h.Group.Reps.zip h.Disks).all (pairF h.Group.Term)
theorem zip_at {xs : List ReplicaT} {ys : List DiskT} {k : Nat} {x : ReplicaT} {y : DiskT} (hx : xs[k]? = some x) (hy : ys[k]? = some y) : (xs.zip ys)[k]? = some (x, y) := by
  rw [List.getElem?_zip_eq_some]
  exact ⟨hx, hy⟩
structure HB (h : HouseT) : Prop where
  gb : GB h.Group
  log : ∀ x ∈ h.Group.Reps, x.Log.length ≤ 1048575
  dl : h.Disks.length ≤ 1048576
  dw : ∀ d ∈ h.Disks, d.w ≤ 1048576
theorem hb_of {h : HouseT} (hw : h.w ≤ 1048576) : HB h := by
  have e : h.w = h.Group.w + wL DiskT.w h.Disks := rfl
  refine ⟨gb_of (by omega), fun x hx => ?_, ?_, fun d hd => ?_⟩
  · have h1 := wL_memS (w := ReplicaT.w) hx
    have h2 : wL EntryT.w x.Log + 1 ≤ h.Group.w := h1
    have := wL_len (w := EntryT.w) (xs := x.Log)
    omega
  · have := wL_len (w := DiskT.w) (xs := h.Disks)
    omega
  · have := (wL_mem (w := DiskT.w) hd).2
    omega
theorem fits_gone {term : Int} {r : ReplicaT} {d : DiskT} (h : okDsk d = false) : fitsD term r d = false := by
  unfold fitsD mendB
  rw [h]
  rfl
theorem okH_no {H : HouseT} (h : okGroup H.Group = false ∨ ¬ (H.Disks.length : Int) = (H.Group.Reps.length : Int) ∨ (H.Group.Reps.zip H.Disks).all (pairF H.Group.Term) = false) : okHouse H = false := by
  unfold okHouse
  rcases h with h | h | h
  · rw [h]; rfl
  · rw [decide_eq_false h]; simp
  · rw [h]; simp
theorem okH_yes {H : HouseT} (h1 : okGroup H.Group = true) (h2 : (H.Disks.length : Int) = (H.Group.Reps.length : Int)) (h3 : (H.Group.Reps.zip H.Disks).all (pairF H.Group.Term) = true) : okHouse H = true := by
  unfold okHouse
  rw [h1, decide_eq_true h2, h3]
  rfl
theorem bad_dsk {H : HouseT} {k : Nat} {y : DiskT} (hl : (H.Disks.length : Int) = (H.Group.Reps.length : Int)) (hT : ((H.Group.Reps.zip H.Disks).drop k).all (pairF H.Group.Term) = (H.Group.Reps.zip H.Disks).all (pairF H.Group.Term)) (hy : H.Disks[k]? = some y) (h : okDsk y = false) : (H.Group.Reps.zip H.Disks).all (pairF H.Group.Term) = false := by
  have hk : k < H.Disks.length := (List.getElem?_eq_some_iff.1 hy).1
  have hx : H.Group.Reps[k]? = some (H.Group.Reps[k]'(by omega)) := List.getElem?_eq_getElem _
  exact all_bad hT (zip_at hx hy) (fits_gone h)
theorem c_impl_GoodHouse (H : HouseT) (hok : H.ok) (hb : HB H) : PC Tryz.prog false 26 [.agg H.cells] (.bool (okHouse H)) [] := by
  have hw1 := hb.gb
  have hw2 := hb.dw
  have hl := reps_len hw1
  refine pc_at Tryz.func26 rfl (by kernel_rfl) 39 [.tmp 2] rfl rfl ?_
  repeat' (conv => whnf); first
 | (refine nameB_cases (b := okGroup H.Group) (fun h => ?_) (fun h => ?_))
 | (refine nameB_cases (b := fitsD H.Group.Term x y) (fun h => ?_) (fun h => ?_))
 | refine nameB_true ?_
 | refine nameB_false ?_
 | (refine nameB_dec (fun h => ?_) (fun h => ?_) <;> try simp only [lensB] at h)
 | (refine nameB_cases (fun h => ?_) (fun h => ?_) <;> try simp only [nmL, lensB] at h)
 | refine splitB_true ?_
 | refine splitB_false ?_
 | refine draw_text (by kernel_rfl) (by kernel_rfl) (by kernel_rfl) ?_
 | ((refine Loop_at [1, 21, 22] [0] (Nat) (fun k => ((H.Group.Reps.zip H.Disks).drop k).all (pairF H.Group.Term) = (H.Group.Reps.zip H.Disks).all (pairF H.Group.Term) ∧ k ≤ H.Group.Reps.length) (fun k => [(23, .int .i64 (k : Nat))]) (fun k => []) (fun k => H.Group.Reps.length - k) 0 ⟨by first | (simp_all <;> fail) | rfl | fail, trivial⟩ trivial (by (try dsimp only); first | (exact ⟨rfl, Nat.zero_le _⟩) | fail) ?_; (conv => whnf); refine side_and (side_of (by first | exact fun k => rfl | exact fun k => by simp [headOk, closedE, closedO, closedL, AV.closed, hcap.closed, hasId, AObj.box, BK.ofB])) ?_; rintro k hT; try dsimp only at hT))
 | (refine Again_of (k + 1) ⟨by first | rfl | exact i64_next (by omega) | (simp_all <;> fail) | fail, trivial⟩ trivial (by first | (and_intros <;> first | rfl | trivial) | fail) (by first | (and_intros <;> first | rfl | trivial) | fail) rfl rfl rfl (by (try dsimp only); first | (exact ⟨all_go hT.1 (zip_at hx hy) (by assumption), by omega⟩) | fail) (show _ < _ by (try dsimp only); omega))
 | refine Call0 (c_impl_GoodGroup H.Group hok.1 hw1) rfl rfl ?_
 | refine CallD0 (c_impl_fitsDisk H.Group x y (hb.log x (List.mem_of_getElem? hx)) (hw2 y (List.mem_of_getElem? hy))) rfl rfl rfl ?_
 | (refine ix_map2 hx (by omega) (by (try simp only [List.length_take]); omega) (fun y hy => ?_); try simp only [Int.toNat_natCast] at hy)
 | (refine ix_map (by omega) (by (try simp only [List.length_take]); omega) (fun x hx => ?_); try simp only [Int.toNat_natCast] at hx)
 | refine side_and (side_of (by first | exact ⟨Nat.le_of_ble_eq_true rfl, rfl⟩ | fail)) ?_
 | refine side_and (side_of (by first | exact Nat.le_of_ble_eq_true rfl | exact rfl | omega | fail)) ?_
 | refine side_and (side_of (by first | (and_intros <;> first | rfl | omega | exact Nat.le_of_ble_eq_true rfl) | fail)) ?_
 | refine LoadK_of rfl rfl ?_
 | fail
  all_goals
    conv => whnf
    refine OutA_plain rfl rfl ?_
    first
    | (have hb := all_bad hT.1 (zip_at hx hy) (by assumption); rw [okH_no (.inr (.inr hb))]; rfl)
    | (have hb := all_end hT.1 (by rw [List.length_zip]; omega); rw [okH_yes (by assumption) (by assumption) hb]; rfl)
    | (rw [okH_no (by first | exact .inl (by assumption) | exact .inr (.inl (by assumption)))]; rfl)
theorem c_spec_l11Good (H : HouseT) (hok : H.ok) (hb : HB H) : PC Tryz.prog true 45 [.agg H.cells] (.bool (okHouse H)) [] := by
  have hw1 := hb.gb
  have hw2 := hb.dw
  have hl := reps_len hw1
  have hdl := hb.dl
  refine pc_at Tryz.func45 rfl (by kernel_rfl) 50 [.tmp 2] rfl rfl ?_
  repeat' (conv => whnf); first
 | (refine nameB_cases (b := okGroup H.Group) (fun h => ?_) (fun h => ?_))
 | (refine nameB_cases (b := fitsD H.Group.Term x y) (fun h => ?_) (fun h => ?_))
 | (refine nameB_cases (b := okDsk y) (fun h => ?_) (fun h => ?_))
 | refine ix_at (f := DiskT.cells) (m := k) rfl hy ?_
 | (refine ix_as (f := DiskT.cells) (m := k) rfl (by omega) (fun y hy => ?_))
 | (refine ix_as (f := ReplicaT.cells) (m := k) rfl (by omega) (fun x hx => ?_))
 | refine nameB_true ?_
 | refine nameB_false ?_
 | (refine nameB_dec (fun h => ?_) (fun h => ?_) <;> try simp only [lensB] at h)
 | (refine nameB_cases (fun h => ?_) (fun h => ?_) <;> try simp only [nmL, lensB] at h)
 | refine splitB_true ?_
 | refine splitB_false ?_
 | refine draw_text (by kernel_rfl) (by kernel_rfl) (by kernel_rfl) ?_
 | ((refine Loop_at [1] [0] (Nat) (fun k => ((H.Group.Reps.zip H.Disks).drop k).all (pairF H.Group.Term) = (H.Group.Reps.zip H.Disks).all (pairF H.Group.Term) ∧ k ≤ H.Disks.length) (fun k => [(3, .int .i64 (k : Nat))]) (fun k => []) (fun k => H.Disks.length - k) 0 ⟨by first | (simp_all <;> fail) | rfl | fail, trivial⟩ trivial (by (try dsimp only); first | (exact ⟨rfl, Nat.zero_le _⟩) | fail) ?_; (conv => whnf); refine side_and (side_of (by first | exact fun k => rfl | exact fun k => by simp [headOk, closedE, closedO, closedL, AV.closed, hcap.closed, hasId, AObj.box, BK.ofB])) ?_; rintro k hT; try dsimp only at hT))
 | (refine Again_of (k + 1) ⟨by first | rfl | exact i64_next (by omega) | (simp_all <;> fail) | fail, trivial⟩ trivial (by first | (and_intros <;> first | rfl | trivial) | fail) (by first | (and_intros <;> first | rfl | trivial) | fail) rfl rfl rfl (by (try dsimp only); first | (exact ⟨all_go hT.1 (zip_at hx hy) (by assumption), by omega⟩) | fail) (show _ < _ by (try dsimp only); omega))
 | refine Call0 (c_spec_GoodGroup H.Group hok.1 hw1) rfl rfl ?_
 | refine CallD0 (c_spec_GoodDisk y (hw2 y (List.mem_of_getElem? hy))) rfl rfl rfl ?_
 | refine CallDT (c_spec_l11Fits2 y x H.Group.Term (by assumption) (hb.log x (List.mem_of_getElem? hx))) rfl rfl rfl ⟨rfl, rfl⟩ ?_
 | refine side_and (side_of (by first | exact Nat.le_of_ble_eq_true rfl | exact rfl | omega | fail)) ?_
 | refine LoadK_of rfl rfl ?_
 | fail
  all_goals
    conv => whnf
    refine OutA_plain rfl rfl ?_
    first
    | (rw [okH_no (by first | exact .inl (by assumption) | exact .inr (.inl (by assumption)))]; rfl)
    | (have hb := all_bad hT.1 (zip_at hx hy) (by assumption); rw [okH_no (.inr (.inr hb))]; rfl)
    | (have hb := bad_dsk (by assumption) hT.1 hy (by assumption); rw [okH_no (.inr (.inr hb))]; rfl)
    | (have hb := all_end hT.1 (by rw [List.length_zip]; omega); rw [okH_yes (by assumption) (by assumption) hb]; rfl)
end Go.Proofs.YtfpkfnfgloonhaaGreat
