/-
  FnLost's law.
  No condition.
-/
import Derived.Test.YtkalobhgonaibaaLost3
import Derived.Test.YtkalobhgonaibaaDraw
namespace Go.Proofs.Ytkalobhgonaibaa
open Go.Ab
set_option linter.unusedSimpArgs false
set_option maxRecDepth 20000
set_option maxHeartbeats 8000000
set_option linter.unusedVariables false

@[irreducible] def sentX (w : NetT) (a b : Int) (body : List UInt8) : NetT := sentR w a b body
@[irreducible] def sentB (w : NetT) (a b : Int) (body : List UInt8) : Bool := okSent w a b body
@[irreducible] def tickX (w : NetT) : NetT := tickN w
@[irreducible] def delX (w : NetT) : NetT := delN w
@[irreducible] def delY (w : NetT) : List LetterT := delL w
theorem sentX_eq (w : NetT) (a b : Int) (body : List UInt8) : sentX w a b body = sentR w a b body := by unfold sentX; rfl
theorem sentB_eq (w : NetT) (a b : Int) (body : List UInt8) : sentB w a b body = okSent w a b body := by unfold sentB; rfl
theorem tickX_eq (w : NetT) : tickX w = tickN w := by unfold tickX; rfl
theorem delX_eq (w : NetT) : delX w = delN w := by unfold delX; rfl
theorem delY_eq (w : NetT) : delY w = delL w := by unfold delY; rfl
def loseL (w : NetT) (i : Int) : List LetterT := outL w.Under i.toNat
@[irreducible] def losB (w : NetT) (i : Int) : Bool := okAt w i && okNet (withN w (loseL w i))
@[irreducible] def loseX (w : NetT) (i : Int) : NetT := resN (losB w i) (withN w (loseL w i))
def dupL (w : NetT) (i : Int) : List LetterT := match w.Under[i.toNat]? with | some y => laidL w.Under y | none => []
@[irreducible] def dupB (w : NetT) (i : Int) : Bool := okAt w i && okNet (withN w (dupL w i))
@[irreducible] def dupX (w : NetT) (i : Int) : NetT := resN (dupB w i) (withN w (dupL w i))
def lateLs (w : NetT) (i b : Int) : List LetterT := match w.Under[i.toNat]? with | some y => laidL (outL w.Under i.toNat) (lateL y b) | none => []
@[irreducible] def lateB (w : NetT) (i b : Int) : Bool := (okAt w i && inB 1 b 50) && okNet (withN w (lateLs w i b))
@[irreducible] def lateX (w : NetT) (i b : Int) : NetT := resN (lateB w i b) (withN w (lateLs w i b))
theorem okAt_get {w : NetT} {i : Int} (h : okAt w i = true) : ∃ y, w.Under[i.toNat]? = some y := by
  have := okAt_side h
  exact ⟨w.Under[i.toNat]'(by omega), List.getElem?_eq_getElem (by omega)⟩
theorem c_SendX (w : NetT) (a b : Int) (body : List UInt8) (hg : okNet w = true) : PC Try.prog true 19 [.agg w.cells, .int .i64 a, .int .i64 b, .str body] (.tup [.agg (sentX w a b body).cells, .bool (sentB w a b body)]) [] := by
  rw [sentX_eq, sentB_eq]
  exact c_SendTo w a b body hg (net_okk hg).1 (net_okk hg).2
theorem c_LoseOne (w : NetT) (i : Int) (hg : okNet w = true) : PC Try.prog true 20 [.agg w.cells, .int .i64 i] (.tup [.agg (loseX w i).cells, .bool (losB w i)]) [] := by
  obtain ⟨hok, hl⟩ := net_okk hg
  cases h : okAt w i with
  | false =>
    have e : losB w i = false := by unfold losB; rw [h]; rfl
    unfold loseX; rw [e]
    exact c_LoseOne_no w i hok hl h
  | true =>
    have e : losB w i = okNet (withN w (loseL w i)) := by unfold losB; rw [h]; rfl
    unfold loseX; rw [e]
    exact c_LoseOne_yes w i hok hl h
theorem c_DoubleOne (w : NetT) (i : Int) (hg : okNet w = true) : PC Try.prog true 21 [.agg w.cells, .int .i64 i] (.tup [.agg (dupX w i).cells, .bool (dupB w i)]) [] := by
  obtain ⟨hok, hl⟩ := net_okk hg
  cases h : okAt w i with
  | false =>
    have e : dupB w i = false := by unfold dupB; rw [h]; rfl
    unfold dupX; rw [e]
    exact c_DoubleOne_no w i hok hl h
  | true =>
    obtain ⟨y, hy⟩ := okAt_get h
    have e2 : dupL w i = laidL w.Under y := by unfold dupL; rw [hy]
    have e : dupB w i = okNet (withN w (laidL w.Under y)) := by unfold dupB; rw [h, e2]; rfl
    unfold dupX; rw [e, e2]
    exact c_DoubleOne_yes w i y hok hl h hy
theorem c_DelayOne (w : NetT) (i b : Int) (hg : okNet w = true) : PC Try.prog true 22 [.agg w.cells, .int .i64 i, .int .i64 b] (.tup [.agg (lateX w i b).cells, .bool (lateB w i b)]) [] := by
  obtain ⟨hok, hl⟩ := net_okk hg
  cases h : (okAt w i && inB 1 b 50) with
  | false =>
    have e : lateB w i b = false := by unfold lateB; rw [h]; rfl
    unfold lateX; rw [e]
    exact c_DelayOne_no w i b hok hl h
  | true =>
    have h' := h
    rw [Bool.and_eq_true] at h'
    obtain ⟨y, hy⟩ := okAt_get h'.1
    have e2 : lateLs w i b = laidL (outL w.Under i.toNat) (lateL y b) := by unfold lateLs; rw [hy]
    have e : lateB w i b = okNet (withN w (laidL (outL w.Under i.toNat) (lateL y b))) := by unfold lateB; rw [h, e2]; rfl
    unfold lateX; rw [e, e2]
    exact c_DelayOne_yes w i b y hok hl h'.1 h'.2 hy
section
variable {k : Nat} {w : NetT} {m c d B : Int}
theorem Mid.sendX (h : Mid k w m c d B) {a b : Int} {body : List UInt8} (hk : k ≤ 1000) (hd : (k : Int) + 9 ≤ d) (ho : sentB w a b body = true) : Mid k (sentX w a b body) (m + 1) c d (B + 1) := by
  rw [sentB_eq] at ho
  rw [sentX_eq, sentR, resN_yes ho]
  exact h.send hk hd ho
theorem Mid.loseX (h : Mid k w m c d B) {i : Int} (ho : losB w i = true) : Mid k (loseX w i) (m + -1) c d (B + 1) := by
  unfold Proofs.Ytkalobhgonaibaa.loseX; rw [resN_yes ho]
  unfold losB at ho
  rw [Bool.and_eq_true] at ho
  exact h.lose ho.1 ho.2
theorem Mid.dupX (h : Mid k w m c d B) {i : Int} (ho : dupB w i = true) : Mid k (dupX w i) (m + 1) c d (B + 1) := by
  unfold Proofs.Ytkalobhgonaibaa.dupX; rw [resN_yes ho]
  unfold dupB at ho
  rw [Bool.and_eq_true] at ho
  obtain ⟨y, hy⟩ := okAt_get ho.1
  have e2 : dupL w i = laidL w.Under y := by unfold dupL; rw [hy]
  rw [e2] at ho ⊢
  exact h.double (List.mem_of_getElem? hy) ho.2
theorem Mid.lateX (h : Mid k w m c d B) {i b : Int} (hd : d ≤ 1000000) (ho : lateB w i b = true) : Mid k (lateX w i b) (m + 0) c (d + 50) B := by
  rw [Int.add_zero]
  unfold Proofs.Ytkalobhgonaibaa.lateX; rw [resN_yes ho]
  unfold lateB at ho
  rw [Bool.and_eq_true, Bool.and_eq_true] at ho
  obtain ⟨y, hy⟩ := okAt_get ho.1.1
  have e2 : lateLs w i b = laidL (outL w.Under i.toNat) (lateL y b) := by unfold lateLs; rw [hy]
  rw [e2] at ho ⊢
  exact h.delay ho.1.1 (List.mem_of_getElem? hy) ho.1.2 hd ho.2
/-- A turn's end. -/
theorem Mid.turn (h : Mid k w m c d B) (hk : k < 100000) : Mid (k + 1) (delX (tickX w)) m (c + ((delY (tickX w)).length : Nat)) d B := by
  rw [delX_eq, tickX_eq, delY_eq]
  exact (h.tick hk).del
theorem Mid.leftX (h : Mid k w m c d B) (hk : k < 100000) : ∀ l ∈ (delX (tickX w)).Under, ((k + 1 : Nat) : Int) < l.Due := by
  rw [delX_eq, tickX_eq]
  exact (h.tick hk).left
end
section
variable {k : Nat} {w : NetT} {m c d B : Int}
theorem Mid.wrapc (h : Mid k w m c d B) (hB : B ≤ 1000) : IntKind.i64.wrap c = c := by
  have := h.cb
  exact i64_wrap (by have := h.mb; omega) (by omega)
theorem Mid.wrapm (h : Mid k w m c d B) (hB : B ≤ 1000) : IntKind.i64.wrap m = m := by
  have := h.mb
  exact i64_wrap (by omega) (by omega)
theorem Mid.lenW (h : Mid k w m c d B) (hB : B ≤ 1000) : (w.Under.length : Int) = IntKind.i64.wrap (IntKind.i64.wrap m - IntKind.i64.wrap c) := by
  rw [h.wrapc hB, h.wrapm hB, i64_wrap (by have := h.cb; have := h.mb; omega) (by have := h.cb; have := h.mb; omega)]
  exact h.len
theorem Mid.lenV (h : Mid k w m c d B) (hB : B ≤ 1000) : (w.Under.length : Int) = IntKind.i64.wrap (m - IntKind.i64.wrap c) := by
  have := h.lenW hB
  rw [h.wrapm hB] at this
  exact this
end
def farOf (code : List Int) : Int := (vA code 0).tmod 5
theorem far_in {code : List Int} (h : okL okU code) : 0 ≤ farOf code ∧ farOf code ≤ 4 := by
  have hv := vA_in (n := 0) h
  unfold farOf
  rw [Int.tmod_eq_emod_of_nonneg hv.1]; omega
theorem far_ok {code : List Int} (h : okL okU code) : okHomes [0, 1, 2] (farOf code) = true := by
  have := far_in h
  unfold okHomes inB
  simp
  omega
theorem lost_start {code : List Int} (h : okL okU code) : Mid 0 ⟨0, [0, 1, 2], farOf code, []⟩ 0 0 (9 + 51 * ((0 : Nat) : Int)) ((0 : Nat) : Int) := by
  have hf := far_in h
  refine ⟨okNet_iff.2 ⟨rfl, far_ok h, Nat.zero_le _, fun l hl => (by cases hl), List.Pairwise.nil⟩, rfl, rfl, hf, rfl, fun l hl => (by cases hl), by omega⟩
theorem wrap_nat {i m : Nat} (h : i + m ≤ 1000) : IntKind.i64.wrap ((i : Int) + (m : Nat)) = ((i + m : Nat) : Int) := by
  rw [i64_wrap (by omega) (by omega)]; omega
theorem c_GoodI (w : NetT) (h : okNet w = true) : PC Try.prog false 25 [.agg w.cells] (.bool true) [] := pc_bool (c_impl_GoodNet w (net_okk h).1) h
theorem c_GoodS (w : NetT) (h : okNet w = true) : PC Try.prog false 26 [.agg w.cells] (.bool true) [] := pc_bool (c_spec_GoodNet w (net_okk h).1) h
theorem c_TickM {k : Nat} {m c d B : Int} (w : NetT) (h : Mid k w m c d B) (hk : k < 100000) : PC Try.prog true 23 [.agg w.cells] (.tup [.agg (tickX w).cells, .bool true]) [] := by
  rw [tickX_eq]
  exact c_Tick w (net_okk h.ok).1 (net_okk h.ok).2 (h.okTick hk)
theorem c_DelM {k : Nat} {m c d B : Int} (w : NetT) (h : Mid k w m c d B) (hk : k < 100000) : PC Try.prog true 24 [.agg (tickX w).cells] (.tup [.agg (delX (tickX w)).cells, .sl ((delY (tickX w)).map LetterT.cells), .bool true]) [] := by
  rw [delX_eq, tickX_eq, delY_eq]
  exact c_Deliver (tickN w) (net_okk (h.tick hk).ok).1 (net_okk (h.tick hk).ok).2 (h.tick hk).ok
theorem c_laws_FnLost (code : List Int) (hu : okL okU code) : PC Try.prog false 5 [.sl (code.map u8C)] (.bool true) [] := by
  have hf := far_in hu
  have h12 : okL okT ([0, 1, 2] : List Int) := ⟨by decide, fun _ _ => trivial⟩
  refine pc_at Try.func5 rfl (by kernel_rfl) 171 [.tmp 2] rfl rfl ?_
  repeat' (conv => whnf); first
    | (refine nameB_cases (b := sentB w _ _ _) (fun h => ?_) (fun h => ?_))
    | (refine nameB_cases (b := losB w _) (fun h => ?_) (fun h => ?_))
    | (refine nameB_cases (b := dupB w _) (fun h => ?_) (fun h => ?_))
    | (refine nameB_cases (b := lateB w _ _) (fun h => ?_) (fun h => ?_))
    | refine nameB_true ?_
    | refine nameB_false ?_
    | refine nameB_yes (by assumption) ?_
    | refine nameB_no (by assumption) ?_
    | refine nameB_dyes (by assumption) ?_
    | refine nameB_dno (by assumption) ?_
    | (refine nameB_dec (fun h => ?_) (fun h => ?_) <;> try simp only [List.length_map, List.length_take, List.length_append, List.length_drop, List.length_set, markList_length, midL_len, mkL_length, Int.toNat_natCast, fact_byte] at h)
    | (refine nameB_cases (fun h => ?_) (fun h => ?_) <;> try simp only [bne_iff_ne, ne_eq, bne_eq_false_iff_eq, beq_iff_eq, beq_eq_false_iff_ne, Bool.not_eq_true', Bool.not_eq_false', Bool.or_eq_true, Bool.or_eq_false_iff, List.length_map, List.length_take, List.length_append, List.length_drop, List.length_set, markList_length, midL_len, mkL_length, Int.toNat_natCast, fact_byte] at h)
    | refine splitB_true ?_
    | refine splitB_false ?_
    | (refine splitB_intro (fun h => ?_) (fun h => ?_) <;> subst h)
    | refine draw_text (by kernel_rfl) (by kernel_rfl) (by kernel_rfl) ?_
    | refine both_intro ?_ ?_
    | refine eitherB_l ?_
    | exact True.intro
    | (show Go.Ab.Loop _ _ _; first
        | (refine Loop_nilB 12416 1 79 4 3 rfl rfl rfl (by decide) ?_; refine Loop_frz [12352, 1] ?_; refine Loop_at [0, 3] [] (Nat × NetT × Int × Int) (fun j => match j with | (k, w, m, c) => Mid k w m c (9 + 51 * (k : Int)) (k : Int) ∧ k ≤ 30) (fun j => match j with | (k, w, m, c) => [(7, .int .i64 (k : Nat)), (5, .int .i64 m), (6, .int .i64 c)]) (fun j => match j with | (k, w, m, c) => [(12416, ⟨true, 36, 4, [w.cells]⟩)]) (fun j => match j with | (k, w, m, c) => 30 - k) (0, ⟨0, [0, 1, 2], farOf code, []⟩, 0, 0) ⟨by first | first | rfl | exact congrArg (AV.int .i64) (i64_wrap (by have hm := hI.1.mb; omega) (by have hm := hI.1.mb; omega)) | (simp only [List.length_map]; first | exact congrArg (AV.int .i64) (Mid.wrapc ((hI.1.sendX (by omega) (by omega) (by assumption)).turn (by omega)) (by omega)) | exact congrArg (AV.int .i64) (Mid.wrapc ((hI.1.loseX (by assumption)).turn (by omega)) (by omega)) | exact congrArg (AV.int .i64) (Mid.wrapc ((hI.1.dupX (by assumption)).turn (by omega)) (by omega)) | exact congrArg (AV.int .i64) (Mid.wrapc ((hI.1.lateX (by omega) (by assumption)).turn (by omega)) (by omega)) | exact congrArg (AV.int .i64) (Mid.wrapc (hI.1.turn (by omega)) (by omega))) | rfl | fail, by first | rfl | first | rfl | exact congrArg (AV.int .i64) (i64_wrap (by have hm := hI.1.mb; omega) (by have hm := hI.1.mb; omega)) | (simp only [List.length_map]; first | exact congrArg (AV.int .i64) (Mid.wrapc ((hI.1.sendX (by omega) (by omega) (by assumption)).turn (by omega)) (by omega)) | exact congrArg (AV.int .i64) (Mid.wrapc ((hI.1.loseX (by assumption)).turn (by omega)) (by omega)) | exact congrArg (AV.int .i64) (Mid.wrapc ((hI.1.dupX (by assumption)).turn (by omega)) (by omega)) | exact congrArg (AV.int .i64) (Mid.wrapc ((hI.1.lateX (by omega) (by assumption)).turn (by omega)) (by omega)) | exact congrArg (AV.int .i64) (Mid.wrapc (hI.1.turn (by omega)) (by omega))) | fail, by first | first | rfl | exact congrArg (AV.int .i64) (i64_wrap (by have hm := hI.1.mb; omega) (by have hm := hI.1.mb; omega)) | (simp only [List.length_map]; first | exact congrArg (AV.int .i64) (Mid.wrapc ((hI.1.sendX (by omega) (by omega) (by assumption)).turn (by omega)) (by omega)) | exact congrArg (AV.int .i64) (Mid.wrapc ((hI.1.loseX (by assumption)).turn (by omega)) (by omega)) | exact congrArg (AV.int .i64) (Mid.wrapc ((hI.1.dupX (by assumption)).turn (by omega)) (by omega)) | exact congrArg (AV.int .i64) (Mid.wrapc ((hI.1.lateX (by omega) (by assumption)).turn (by omega)) (by omega)) | exact congrArg (AV.int .i64) (Mid.wrapc (hI.1.turn (by omega)) (by omega))) | rfl | fail, trivial⟩ ⟨by first | rfl | exact congrArg (fun e => some (AObj.mk _ _ _ e)) (set_rep hx) | exact congrArg (fun e => some (AObj.mk _ _ _ e)) start_rep | fail | fail, trivial⟩ (by (try dsimp only); first | (exact ⟨lost_start hu, Nat.zero_le _⟩) | fail) ?_; (conv => whnf); refine side_and (side_of (by first | exact fun ⟨k, w, m, c⟩ => rfl | exact fun ⟨k, w, m, c⟩ => by simp [headOk, closedE, closedO, closedL, AV.closed, hcap.closed, hasId, AObj.box, BK.ofB])) ?_; rintro ⟨k, w, m, c⟩ hI; try dsimp only at hI)
        | (refine Loop_at [3, 5] [] (Nat × NetT × Int) (fun j => match j with | (j, w2, c2) => Mid (k + j) w2 m c2 1539 30 ∧ (j = 0 ∨ ∀ l ∈ w2.Under, ((k + j : Nat) : Int) < l.Due) ∧ j ≤ 1700 ∧ k = 30) (fun j => match j with | (j, w2, c2) => [(14, .int .i64 (j : Nat)), (6, .int .i64 c2)]) (fun j => match j with | (j, w2, c2) => [(12416, ⟨true, 36, 4, [w2.cells]⟩)]) (fun j => match j with | (j, w2, c2) => 1700 - j) (0, w, c) ⟨by first | first | rfl | (simp only [List.length_map]; exact congrArg (AV.int .i64) (Mid.wrapc (hJ.1.turn (by omega)) (by omega))) | rfl | fail, by first | first | rfl | (simp only [List.length_map]; exact congrArg (AV.int .i64) (Mid.wrapc (hJ.1.turn (by omega)) (by omega))) | rfl | fail, trivial⟩ ⟨by first | rfl | exact congrArg (fun e => some (AObj.mk _ _ _ e)) (set_rep hx) | exact congrArg (fun e => some (AObj.mk _ _ _ e)) start_rep | fail | fail, trivial⟩ (by (try dsimp only); first | (exact ⟨hI.1.more (by omega) (by omega), .inl rfl, by omega, by omega⟩) | fail) ?_; (conv => whnf); refine side_and (side_of (by first | exact fun ⟨j, w2, c2⟩ => rfl | exact fun ⟨j, w2, c2⟩ => by simp [headOk, closedE, closedO, closedL, AV.closed, hcap.closed, hasId, AObj.box, BK.ofB])) ?_; rintro ⟨j, w2, c2⟩ hJ; try dsimp only at hJ))
    | (show Go.Ab.Again _ _ _ _ _ _ _ _ _ _ _; first
        | refine Again_of (k + 1, delX (tickX (sentX w _ _ _)), m + 1, c + ((delY (tickX (sentX w _ _ _))).length : Nat)) ⟨by first | rfl | exact i64_next (by omega) | first | rfl | exact congrArg (AV.int .i64) (i64_wrap (by have hm := hI.1.mb; omega) (by have hm := hI.1.mb; omega)) | (simp only [List.length_map]; first | exact congrArg (AV.int .i64) (Mid.wrapc ((hI.1.sendX (by omega) (by omega) (by assumption)).turn (by omega)) (by omega)) | exact congrArg (AV.int .i64) (Mid.wrapc ((hI.1.loseX (by assumption)).turn (by omega)) (by omega)) | exact congrArg (AV.int .i64) (Mid.wrapc ((hI.1.dupX (by assumption)).turn (by omega)) (by omega)) | exact congrArg (AV.int .i64) (Mid.wrapc ((hI.1.lateX (by omega) (by assumption)).turn (by omega)) (by omega)) | exact congrArg (AV.int .i64) (Mid.wrapc (hI.1.turn (by omega)) (by omega))) | fail, by first | rfl | first | rfl | exact congrArg (AV.int .i64) (i64_wrap (by have hm := hI.1.mb; omega) (by have hm := hI.1.mb; omega)) | (simp only [List.length_map]; first | exact congrArg (AV.int .i64) (Mid.wrapc ((hI.1.sendX (by omega) (by omega) (by assumption)).turn (by omega)) (by omega)) | exact congrArg (AV.int .i64) (Mid.wrapc ((hI.1.loseX (by assumption)).turn (by omega)) (by omega)) | exact congrArg (AV.int .i64) (Mid.wrapc ((hI.1.dupX (by assumption)).turn (by omega)) (by omega)) | exact congrArg (AV.int .i64) (Mid.wrapc ((hI.1.lateX (by omega) (by assumption)).turn (by omega)) (by omega)) | exact congrArg (AV.int .i64) (Mid.wrapc (hI.1.turn (by omega)) (by omega))) | fail, by first | first | rfl | exact congrArg (AV.int .i64) (i64_wrap (by have hm := hI.1.mb; omega) (by have hm := hI.1.mb; omega)) | (simp only [List.length_map]; first | exact congrArg (AV.int .i64) (Mid.wrapc ((hI.1.sendX (by omega) (by omega) (by assumption)).turn (by omega)) (by omega)) | exact congrArg (AV.int .i64) (Mid.wrapc ((hI.1.loseX (by assumption)).turn (by omega)) (by omega)) | exact congrArg (AV.int .i64) (Mid.wrapc ((hI.1.dupX (by assumption)).turn (by omega)) (by omega)) | exact congrArg (AV.int .i64) (Mid.wrapc ((hI.1.lateX (by omega) (by assumption)).turn (by omega)) (by omega)) | exact congrArg (AV.int .i64) (Mid.wrapc (hI.1.turn (by omega)) (by omega))) | rfl | fail, trivial⟩ ⟨by first | rfl | exact congrArg (fun e => some (AObj.mk _ _ _ e)) (set_rep hx) | exact congrArg (fun e => some (AObj.mk _ _ _ e)) start_rep | fail | fail, trivial⟩ (by first | (and_intros <;> first | rfl | trivial) | fail) (by first | (and_intros <;> first | rfl | trivial) | fail) rfl rfl rfl (by (try dsimp only); first | (first | exact ⟨((hI.1.sendX (by omega) (by omega) (by assumption)).turn (by omega)).more (by omega) (by omega), by omega⟩ | exact ⟨((hI.1.loseX (by assumption)).turn (by omega)).more (by omega) (by omega), by omega⟩ | exact ⟨((hI.1.dupX (by assumption)).turn (by omega)).more (by omega) (by omega), by omega⟩ | exact ⟨((hI.1.lateX (by omega) (by assumption)).turn (by omega)).more (by omega) (by omega), by omega⟩ | exact ⟨(hI.1.turn (by omega)).more (by omega) (by omega), by omega⟩) | fail) (show _ < _ by (try dsimp only); omega)
        | refine Again_of (k + 1, delX (tickX (loseX w _)), m + -1, c + ((delY (tickX (loseX w _))).length : Nat)) ⟨by first | rfl | exact i64_next (by omega) | first | rfl | exact congrArg (AV.int .i64) (i64_wrap (by have hm := hI.1.mb; omega) (by have hm := hI.1.mb; omega)) | (simp only [List.length_map]; first | exact congrArg (AV.int .i64) (Mid.wrapc ((hI.1.sendX (by omega) (by omega) (by assumption)).turn (by omega)) (by omega)) | exact congrArg (AV.int .i64) (Mid.wrapc ((hI.1.loseX (by assumption)).turn (by omega)) (by omega)) | exact congrArg (AV.int .i64) (Mid.wrapc ((hI.1.dupX (by assumption)).turn (by omega)) (by omega)) | exact congrArg (AV.int .i64) (Mid.wrapc ((hI.1.lateX (by omega) (by assumption)).turn (by omega)) (by omega)) | exact congrArg (AV.int .i64) (Mid.wrapc (hI.1.turn (by omega)) (by omega))) | fail, by first | rfl | first | rfl | exact congrArg (AV.int .i64) (i64_wrap (by have hm := hI.1.mb; omega) (by have hm := hI.1.mb; omega)) | (simp only [List.length_map]; first | exact congrArg (AV.int .i64) (Mid.wrapc ((hI.1.sendX (by omega) (by omega) (by assumption)).turn (by omega)) (by omega)) | exact congrArg (AV.int .i64) (Mid.wrapc ((hI.1.loseX (by assumption)).turn (by omega)) (by omega)) | exact congrArg (AV.int .i64) (Mid.wrapc ((hI.1.dupX (by assumption)).turn (by omega)) (by omega)) | exact congrArg (AV.int .i64) (Mid.wrapc ((hI.1.lateX (by omega) (by assumption)).turn (by omega)) (by omega)) | exact congrArg (AV.int .i64) (Mid.wrapc (hI.1.turn (by omega)) (by omega))) | fail, by first | first | rfl | exact congrArg (AV.int .i64) (i64_wrap (by have hm := hI.1.mb; omega) (by have hm := hI.1.mb; omega)) | (simp only [List.length_map]; first | exact congrArg (AV.int .i64) (Mid.wrapc ((hI.1.sendX (by omega) (by omega) (by assumption)).turn (by omega)) (by omega)) | exact congrArg (AV.int .i64) (Mid.wrapc ((hI.1.loseX (by assumption)).turn (by omega)) (by omega)) | exact congrArg (AV.int .i64) (Mid.wrapc ((hI.1.dupX (by assumption)).turn (by omega)) (by omega)) | exact congrArg (AV.int .i64) (Mid.wrapc ((hI.1.lateX (by omega) (by assumption)).turn (by omega)) (by omega)) | exact congrArg (AV.int .i64) (Mid.wrapc (hI.1.turn (by omega)) (by omega))) | rfl | fail, trivial⟩ ⟨by first | rfl | exact congrArg (fun e => some (AObj.mk _ _ _ e)) (set_rep hx) | exact congrArg (fun e => some (AObj.mk _ _ _ e)) start_rep | fail | fail, trivial⟩ (by first | (and_intros <;> first | rfl | trivial) | fail) (by first | (and_intros <;> first | rfl | trivial) | fail) rfl rfl rfl (by (try dsimp only); first | (first | exact ⟨((hI.1.sendX (by omega) (by omega) (by assumption)).turn (by omega)).more (by omega) (by omega), by omega⟩ | exact ⟨((hI.1.loseX (by assumption)).turn (by omega)).more (by omega) (by omega), by omega⟩ | exact ⟨((hI.1.dupX (by assumption)).turn (by omega)).more (by omega) (by omega), by omega⟩ | exact ⟨((hI.1.lateX (by omega) (by assumption)).turn (by omega)).more (by omega) (by omega), by omega⟩ | exact ⟨(hI.1.turn (by omega)).more (by omega) (by omega), by omega⟩) | fail) (show _ < _ by (try dsimp only); omega)
        | refine Again_of (k + 1, delX (tickX (dupX w _)), m + 1, c + ((delY (tickX (dupX w _))).length : Nat)) ⟨by first | rfl | exact i64_next (by omega) | first | rfl | exact congrArg (AV.int .i64) (i64_wrap (by have hm := hI.1.mb; omega) (by have hm := hI.1.mb; omega)) | (simp only [List.length_map]; first | exact congrArg (AV.int .i64) (Mid.wrapc ((hI.1.sendX (by omega) (by omega) (by assumption)).turn (by omega)) (by omega)) | exact congrArg (AV.int .i64) (Mid.wrapc ((hI.1.loseX (by assumption)).turn (by omega)) (by omega)) | exact congrArg (AV.int .i64) (Mid.wrapc ((hI.1.dupX (by assumption)).turn (by omega)) (by omega)) | exact congrArg (AV.int .i64) (Mid.wrapc ((hI.1.lateX (by omega) (by assumption)).turn (by omega)) (by omega)) | exact congrArg (AV.int .i64) (Mid.wrapc (hI.1.turn (by omega)) (by omega))) | fail, by first | rfl | first | rfl | exact congrArg (AV.int .i64) (i64_wrap (by have hm := hI.1.mb; omega) (by have hm := hI.1.mb; omega)) | (simp only [List.length_map]; first | exact congrArg (AV.int .i64) (Mid.wrapc ((hI.1.sendX (by omega) (by omega) (by assumption)).turn (by omega)) (by omega)) | exact congrArg (AV.int .i64) (Mid.wrapc ((hI.1.loseX (by assumption)).turn (by omega)) (by omega)) | exact congrArg (AV.int .i64) (Mid.wrapc ((hI.1.dupX (by assumption)).turn (by omega)) (by omega)) | exact congrArg (AV.int .i64) (Mid.wrapc ((hI.1.lateX (by omega) (by assumption)).turn (by omega)) (by omega)) | exact congrArg (AV.int .i64) (Mid.wrapc (hI.1.turn (by omega)) (by omega))) | fail, by first | first | rfl | exact congrArg (AV.int .i64) (i64_wrap (by have hm := hI.1.mb; omega) (by have hm := hI.1.mb; omega)) | (simp only [List.length_map]; first | exact congrArg (AV.int .i64) (Mid.wrapc ((hI.1.sendX (by omega) (by omega) (by assumption)).turn (by omega)) (by omega)) | exact congrArg (AV.int .i64) (Mid.wrapc ((hI.1.loseX (by assumption)).turn (by omega)) (by omega)) | exact congrArg (AV.int .i64) (Mid.wrapc ((hI.1.dupX (by assumption)).turn (by omega)) (by omega)) | exact congrArg (AV.int .i64) (Mid.wrapc ((hI.1.lateX (by omega) (by assumption)).turn (by omega)) (by omega)) | exact congrArg (AV.int .i64) (Mid.wrapc (hI.1.turn (by omega)) (by omega))) | rfl | fail, trivial⟩ ⟨by first | rfl | exact congrArg (fun e => some (AObj.mk _ _ _ e)) (set_rep hx) | exact congrArg (fun e => some (AObj.mk _ _ _ e)) start_rep | fail | fail, trivial⟩ (by first | (and_intros <;> first | rfl | trivial) | fail) (by first | (and_intros <;> first | rfl | trivial) | fail) rfl rfl rfl (by (try dsimp only); first | (first | exact ⟨((hI.1.sendX (by omega) (by omega) (by assumption)).turn (by omega)).more (by omega) (by omega), by omega⟩ | exact ⟨((hI.1.loseX (by assumption)).turn (by omega)).more (by omega) (by omega), by omega⟩ | exact ⟨((hI.1.dupX (by assumption)).turn (by omega)).more (by omega) (by omega), by omega⟩ | exact ⟨((hI.1.lateX (by omega) (by assumption)).turn (by omega)).more (by omega) (by omega), by omega⟩ | exact ⟨(hI.1.turn (by omega)).more (by omega) (by omega), by omega⟩) | fail) (show _ < _ by (try dsimp only); omega)
        | refine Again_of (k + 1, delX (tickX (lateX w _ _)), m + 0, c + ((delY (tickX (lateX w _ _))).length : Nat)) ⟨by first | rfl | exact i64_next (by omega) | first | rfl | exact congrArg (AV.int .i64) (i64_wrap (by have hm := hI.1.mb; omega) (by have hm := hI.1.mb; omega)) | (simp only [List.length_map]; first | exact congrArg (AV.int .i64) (Mid.wrapc ((hI.1.sendX (by omega) (by omega) (by assumption)).turn (by omega)) (by omega)) | exact congrArg (AV.int .i64) (Mid.wrapc ((hI.1.loseX (by assumption)).turn (by omega)) (by omega)) | exact congrArg (AV.int .i64) (Mid.wrapc ((hI.1.dupX (by assumption)).turn (by omega)) (by omega)) | exact congrArg (AV.int .i64) (Mid.wrapc ((hI.1.lateX (by omega) (by assumption)).turn (by omega)) (by omega)) | exact congrArg (AV.int .i64) (Mid.wrapc (hI.1.turn (by omega)) (by omega))) | fail, by first | rfl | first | rfl | exact congrArg (AV.int .i64) (i64_wrap (by have hm := hI.1.mb; omega) (by have hm := hI.1.mb; omega)) | (simp only [List.length_map]; first | exact congrArg (AV.int .i64) (Mid.wrapc ((hI.1.sendX (by omega) (by omega) (by assumption)).turn (by omega)) (by omega)) | exact congrArg (AV.int .i64) (Mid.wrapc ((hI.1.loseX (by assumption)).turn (by omega)) (by omega)) | exact congrArg (AV.int .i64) (Mid.wrapc ((hI.1.dupX (by assumption)).turn (by omega)) (by omega)) | exact congrArg (AV.int .i64) (Mid.wrapc ((hI.1.lateX (by omega) (by assumption)).turn (by omega)) (by omega)) | exact congrArg (AV.int .i64) (Mid.wrapc (hI.1.turn (by omega)) (by omega))) | fail, by first | first | rfl | exact congrArg (AV.int .i64) (i64_wrap (by have hm := hI.1.mb; omega) (by have hm := hI.1.mb; omega)) | (simp only [List.length_map]; first | exact congrArg (AV.int .i64) (Mid.wrapc ((hI.1.sendX (by omega) (by omega) (by assumption)).turn (by omega)) (by omega)) | exact congrArg (AV.int .i64) (Mid.wrapc ((hI.1.loseX (by assumption)).turn (by omega)) (by omega)) | exact congrArg (AV.int .i64) (Mid.wrapc ((hI.1.dupX (by assumption)).turn (by omega)) (by omega)) | exact congrArg (AV.int .i64) (Mid.wrapc ((hI.1.lateX (by omega) (by assumption)).turn (by omega)) (by omega)) | exact congrArg (AV.int .i64) (Mid.wrapc (hI.1.turn (by omega)) (by omega))) | rfl | fail, trivial⟩ ⟨by first | rfl | exact congrArg (fun e => some (AObj.mk _ _ _ e)) (set_rep hx) | exact congrArg (fun e => some (AObj.mk _ _ _ e)) start_rep | fail | fail, trivial⟩ (by first | (and_intros <;> first | rfl | trivial) | fail) (by first | (and_intros <;> first | rfl | trivial) | fail) rfl rfl rfl (by (try dsimp only); first | (first | exact ⟨((hI.1.sendX (by omega) (by omega) (by assumption)).turn (by omega)).more (by omega) (by omega), by omega⟩ | exact ⟨((hI.1.loseX (by assumption)).turn (by omega)).more (by omega) (by omega), by omega⟩ | exact ⟨((hI.1.dupX (by assumption)).turn (by omega)).more (by omega) (by omega), by omega⟩ | exact ⟨((hI.1.lateX (by omega) (by assumption)).turn (by omega)).more (by omega) (by omega), by omega⟩ | exact ⟨(hI.1.turn (by omega)).more (by omega) (by omega), by omega⟩) | fail) (show _ < _ by (try dsimp only); omega)
        | refine Again_of (k + 1, delX (tickX w), m, c + ((delY (tickX w)).length : Nat)) ⟨by first | rfl | exact i64_next (by omega) | first | rfl | exact congrArg (AV.int .i64) (i64_wrap (by have hm := hI.1.mb; omega) (by have hm := hI.1.mb; omega)) | (simp only [List.length_map]; first | exact congrArg (AV.int .i64) (Mid.wrapc ((hI.1.sendX (by omega) (by omega) (by assumption)).turn (by omega)) (by omega)) | exact congrArg (AV.int .i64) (Mid.wrapc ((hI.1.loseX (by assumption)).turn (by omega)) (by omega)) | exact congrArg (AV.int .i64) (Mid.wrapc ((hI.1.dupX (by assumption)).turn (by omega)) (by omega)) | exact congrArg (AV.int .i64) (Mid.wrapc ((hI.1.lateX (by omega) (by assumption)).turn (by omega)) (by omega)) | exact congrArg (AV.int .i64) (Mid.wrapc (hI.1.turn (by omega)) (by omega))) | fail, by first | rfl | first | rfl | exact congrArg (AV.int .i64) (i64_wrap (by have hm := hI.1.mb; omega) (by have hm := hI.1.mb; omega)) | (simp only [List.length_map]; first | exact congrArg (AV.int .i64) (Mid.wrapc ((hI.1.sendX (by omega) (by omega) (by assumption)).turn (by omega)) (by omega)) | exact congrArg (AV.int .i64) (Mid.wrapc ((hI.1.loseX (by assumption)).turn (by omega)) (by omega)) | exact congrArg (AV.int .i64) (Mid.wrapc ((hI.1.dupX (by assumption)).turn (by omega)) (by omega)) | exact congrArg (AV.int .i64) (Mid.wrapc ((hI.1.lateX (by omega) (by assumption)).turn (by omega)) (by omega)) | exact congrArg (AV.int .i64) (Mid.wrapc (hI.1.turn (by omega)) (by omega))) | fail, by first | first | rfl | exact congrArg (AV.int .i64) (i64_wrap (by have hm := hI.1.mb; omega) (by have hm := hI.1.mb; omega)) | (simp only [List.length_map]; first | exact congrArg (AV.int .i64) (Mid.wrapc ((hI.1.sendX (by omega) (by omega) (by assumption)).turn (by omega)) (by omega)) | exact congrArg (AV.int .i64) (Mid.wrapc ((hI.1.loseX (by assumption)).turn (by omega)) (by omega)) | exact congrArg (AV.int .i64) (Mid.wrapc ((hI.1.dupX (by assumption)).turn (by omega)) (by omega)) | exact congrArg (AV.int .i64) (Mid.wrapc ((hI.1.lateX (by omega) (by assumption)).turn (by omega)) (by omega)) | exact congrArg (AV.int .i64) (Mid.wrapc (hI.1.turn (by omega)) (by omega))) | rfl | fail, trivial⟩ ⟨by first | rfl | exact congrArg (fun e => some (AObj.mk _ _ _ e)) (set_rep hx) | exact congrArg (fun e => some (AObj.mk _ _ _ e)) start_rep | fail | fail, trivial⟩ (by first | (and_intros <;> first | rfl | trivial) | fail) (by first | (and_intros <;> first | rfl | trivial) | fail) rfl rfl rfl (by (try dsimp only); first | (first | exact ⟨((hI.1.sendX (by omega) (by omega) (by assumption)).turn (by omega)).more (by omega) (by omega), by omega⟩ | exact ⟨((hI.1.loseX (by assumption)).turn (by omega)).more (by omega) (by omega), by omega⟩ | exact ⟨((hI.1.dupX (by assumption)).turn (by omega)).more (by omega) (by omega), by omega⟩ | exact ⟨((hI.1.lateX (by omega) (by assumption)).turn (by omega)).more (by omega) (by omega), by omega⟩ | exact ⟨(hI.1.turn (by omega)).more (by omega) (by omega), by omega⟩) | fail) (show _ < _ by (try dsimp only); omega)
        | refine Again_of (j + 1, delX (tickX w2), c2 + ((delY (tickX w2)).length : Nat)) ⟨by first | rfl | exact i64_next (by omega) | first | rfl | (simp only [List.length_map]; exact congrArg (AV.int .i64) (Mid.wrapc (hJ.1.turn (by omega)) (by omega))) | fail, by first | first | rfl | (simp only [List.length_map]; exact congrArg (AV.int .i64) (Mid.wrapc (hJ.1.turn (by omega)) (by omega))) | rfl | fail, trivial⟩ ⟨by first | rfl | exact congrArg (fun e => some (AObj.mk _ _ _ e)) (set_rep hx) | exact congrArg (fun e => some (AObj.mk _ _ _ e)) start_rep | fail | fail, trivial⟩ (by first | (and_intros <;> first | rfl | trivial) | fail) (by first | (and_intros <;> first | rfl | trivial) | fail) rfl rfl rfl (by (try dsimp only); first | (exact ⟨hJ.1.turn (by omega), .inr (hJ.1.leftX (by omega)), by omega, by omega⟩) | fail) (show _ < _ by (try dsimp only); omega))
    | (show Go.Ab.CallA _ _ _ _ _ _ _; first
        | refine Call0 (c_laws_vBig code) rfl rfl ?_
        | refine Call0 (c_laws_vAt code 0 hu (by omega) (by omega)) rfl rfl ?_
        | refine Call0 (c_laws_vAt code (k + 1) hu (by omega) (by omega)) (congrArg (fun x => [AV.sl (code.map u8C), AV.int .i64 x]) (wrap_nat (m := 1) (by omega))) rfl ?_
        | refine Call0 (c_laws_vAt code (k + 2) hu (by omega) (by omega)) (congrArg (fun x => [AV.sl (code.map u8C), AV.int .i64 x]) (wrap_nat (m := 2) (by omega))) rfl ?_
        | refine Call0 (c_laws_vAt code (k + 3) hu (by omega) (by omega)) (congrArg (fun x => [AV.sl (code.map u8C), AV.int .i64 x]) (wrap_nat (m := 3) (by omega))) rfl ?_
        | refine CallF (c_NewNet [0, 1, 2] (farOf code) h12 (by decide) (far_ok hu)) rfl rfl rfl (Nat.le_of_ble_eq_true rfl) ?_
        | refine CallT (c_SendX w _ _ [120] hI.1.ok) rfl rfl rfl rfl (Nat.le_of_ble_eq_true rfl) ?_
        | refine CallT (c_LoseOne w _ hI.1.ok) rfl rfl rfl rfl (Nat.le_of_ble_eq_true rfl) ?_
        | refine CallT (c_DoubleOne w _ hI.1.ok) rfl rfl rfl rfl (Nat.le_of_ble_eq_true rfl) ?_
        | refine CallT (c_DelayOne w _ _ hI.1.ok) rfl rfl rfl rfl (Nat.le_of_ble_eq_true rfl) ?_
        | refine CallT (c_TickM (sentX w _ _ _) (hI.1.sendX (by omega) (by omega) (by assumption)) (by omega)) rfl rfl rfl rfl (Nat.le_of_ble_eq_true rfl) ?_
        | refine CallT (c_DelM (sentX w _ _ _) (hI.1.sendX (by omega) (by omega) (by assumption)) (by omega)) rfl rfl rfl rfl (Nat.le_of_ble_eq_true rfl) ?_
        | refine Call0 (c_GoodI (delX (tickX (sentX w _ _ _))) ((hI.1.sendX (by omega) (by omega) (by assumption)).turn (by omega)).ok) rfl rfl ?_
        | refine Call0 (c_GoodS (delX (tickX (sentX w _ _ _))) ((hI.1.sendX (by omega) (by omega) (by assumption)).turn (by omega)).ok) rfl rfl ?_
        | refine CallT (c_TickM (loseX w _) (hI.1.loseX (by assumption)) (by omega)) rfl rfl rfl rfl (Nat.le_of_ble_eq_true rfl) ?_
        | refine CallT (c_DelM (loseX w _) (hI.1.loseX (by assumption)) (by omega)) rfl rfl rfl rfl (Nat.le_of_ble_eq_true rfl) ?_
        | refine Call0 (c_GoodI (delX (tickX (loseX w _))) ((hI.1.loseX (by assumption)).turn (by omega)).ok) rfl rfl ?_
        | refine Call0 (c_GoodS (delX (tickX (loseX w _))) ((hI.1.loseX (by assumption)).turn (by omega)).ok) rfl rfl ?_
        | refine CallT (c_TickM (dupX w _) (hI.1.dupX (by assumption)) (by omega)) rfl rfl rfl rfl (Nat.le_of_ble_eq_true rfl) ?_
        | refine CallT (c_DelM (dupX w _) (hI.1.dupX (by assumption)) (by omega)) rfl rfl rfl rfl (Nat.le_of_ble_eq_true rfl) ?_
        | refine Call0 (c_GoodI (delX (tickX (dupX w _))) ((hI.1.dupX (by assumption)).turn (by omega)).ok) rfl rfl ?_
        | refine Call0 (c_GoodS (delX (tickX (dupX w _))) ((hI.1.dupX (by assumption)).turn (by omega)).ok) rfl rfl ?_
        | refine CallT (c_TickM (lateX w _ _) (hI.1.lateX (by omega) (by assumption)) (by omega)) rfl rfl rfl rfl (Nat.le_of_ble_eq_true rfl) ?_
        | refine CallT (c_DelM (lateX w _ _) (hI.1.lateX (by omega) (by assumption)) (by omega)) rfl rfl rfl rfl (Nat.le_of_ble_eq_true rfl) ?_
        | refine Call0 (c_GoodI (delX (tickX (lateX w _ _))) ((hI.1.lateX (by omega) (by assumption)).turn (by omega)).ok) rfl rfl ?_
        | refine Call0 (c_GoodS (delX (tickX (lateX w _ _))) ((hI.1.lateX (by omega) (by assumption)).turn (by omega)).ok) rfl rfl ?_
        | refine CallT (c_TickM w hI.1 (by omega)) rfl rfl rfl rfl (Nat.le_of_ble_eq_true rfl) ?_
        | refine CallT (c_DelM w hI.1 (by omega)) rfl rfl rfl rfl (Nat.le_of_ble_eq_true rfl) ?_
        | refine Call0 (c_GoodI (delX (tickX w)) (hI.1.turn (by omega)).ok) rfl rfl ?_
        | refine Call0 (c_GoodS (delX (tickX w)) (hI.1.turn (by omega)).ok) rfl rfl ?_
        | refine CallT (c_TickM w2 hJ.1 (by omega)) rfl rfl rfl rfl (Nat.le_of_ble_eq_true rfl) ?_
        | refine CallT (c_DelM w2 hJ.1 (by omega)) rfl rfl rfl rfl (Nat.le_of_ble_eq_true rfl) ?_)
    | (show Go.Ab.CallD _ _ _ _ _ _ _; first
        | refine CallD0 (c_laws_vAt code (k + 2) hu (by omega) (by omega)) (congrArg (fun x => [AV.sl (code.map u8C), AV.int .i64 x]) (wrap_nat (m := 2) (by omega))) rfl rfl ?_
        | refine CallD0 (c_laws_vAt code (k + 3) hu (by omega) (by omega)) (congrArg (fun x => [AV.sl (code.map u8C), AV.int .i64 x]) (wrap_nat (m := 3) (by omega))) rfl rfl ?_
        | refine CallD0 (c_laws_vBig code) rfl rfl rfl ?_
        | refine CallD0 (c_laws_vAt code 0 hu (by omega) (by omega)) rfl rfl rfl ?_
        | refine CallD0 (c_laws_vAt code (k + 1) hu (by omega) (by omega)) (congrArg (fun x => [AV.sl (code.map u8C), AV.int .i64 x]) (wrap_nat (m := 1) (by omega))) rfl ?_
        | refine CallD0 (c_laws_vAt code (k + 2) hu (by omega) (by omega)) (congrArg (fun x => [AV.sl (code.map u8C), AV.int .i64 x]) (wrap_nat (m := 2) (by omega))) rfl ?_
        | refine CallD0 (c_laws_vAt code (k + 3) hu (by omega) (by omega)) (congrArg (fun x => [AV.sl (code.map u8C), AV.int .i64 x]) (wrap_nat (m := 3) (by omega))) rfl ?_
        | refine CallDF (c_NewNet [0, 1, 2] (farOf code) h12 (by decide) (far_ok hu)) rfl rfl ⟨rfl, rfl⟩ ?_
        | refine CallDT (c_SendX w _ _ [120] hI.1.ok) rfl rfl rfl ⟨rfl, rfl⟩ ?_
        | refine CallDT (c_LoseOne w _ hI.1.ok) rfl rfl rfl ⟨rfl, rfl⟩ ?_
        | refine CallDT (c_DoubleOne w _ hI.1.ok) rfl rfl rfl ⟨rfl, rfl⟩ ?_
        | refine CallDT (c_DelayOne w _ _ hI.1.ok) rfl rfl rfl ⟨rfl, rfl⟩ ?_
        | refine CallDT (c_TickM (sentX w _ _ _) (hI.1.sendX (by omega) (by omega) (by assumption)) (by omega)) rfl rfl rfl ⟨rfl, rfl⟩ ?_
        | refine CallDT (c_DelM (sentX w _ _ _) (hI.1.sendX (by omega) (by omega) (by assumption)) (by omega)) rfl rfl rfl ⟨rfl, rfl⟩ ?_
        | refine CallD0 (c_GoodI (delX (tickX (sentX w _ _ _))) ((hI.1.sendX (by omega) (by omega) (by assumption)).turn (by omega)).ok) rfl rfl rfl ?_
        | refine CallD0 (c_GoodS (delX (tickX (sentX w _ _ _))) ((hI.1.sendX (by omega) (by omega) (by assumption)).turn (by omega)).ok) rfl rfl rfl ?_
        | refine CallDT (c_TickM (loseX w _) (hI.1.loseX (by assumption)) (by omega)) rfl rfl rfl ⟨rfl, rfl⟩ ?_
        | refine CallDT (c_DelM (loseX w _) (hI.1.loseX (by assumption)) (by omega)) rfl rfl rfl ⟨rfl, rfl⟩ ?_
        | refine CallD0 (c_GoodI (delX (tickX (loseX w _))) ((hI.1.loseX (by assumption)).turn (by omega)).ok) rfl rfl rfl ?_
        | refine CallD0 (c_GoodS (delX (tickX (loseX w _))) ((hI.1.loseX (by assumption)).turn (by omega)).ok) rfl rfl rfl ?_
        | refine CallDT (c_TickM (dupX w _) (hI.1.dupX (by assumption)) (by omega)) rfl rfl rfl ⟨rfl, rfl⟩ ?_
        | refine CallDT (c_DelM (dupX w _) (hI.1.dupX (by assumption)) (by omega)) rfl rfl rfl ⟨rfl, rfl⟩ ?_
        | refine CallD0 (c_GoodI (delX (tickX (dupX w _))) ((hI.1.dupX (by assumption)).turn (by omega)).ok) rfl rfl rfl ?_
        | refine CallD0 (c_GoodS (delX (tickX (dupX w _))) ((hI.1.dupX (by assumption)).turn (by omega)).ok) rfl rfl rfl ?_
        | refine CallDT (c_TickM (lateX w _ _) (hI.1.lateX (by omega) (by assumption)) (by omega)) rfl rfl rfl ⟨rfl, rfl⟩ ?_
        | refine CallDT (c_DelM (lateX w _ _) (hI.1.lateX (by omega) (by assumption)) (by omega)) rfl rfl rfl ⟨rfl, rfl⟩ ?_
        | refine CallD0 (c_GoodI (delX (tickX (lateX w _ _))) ((hI.1.lateX (by omega) (by assumption)).turn (by omega)).ok) rfl rfl rfl ?_
        | refine CallD0 (c_GoodS (delX (tickX (lateX w _ _))) ((hI.1.lateX (by omega) (by assumption)).turn (by omega)).ok) rfl rfl rfl ?_
        | refine CallDT (c_TickM w hI.1 (by omega)) rfl rfl rfl ⟨rfl, rfl⟩ ?_
        | refine CallDT (c_DelM w hI.1 (by omega)) rfl rfl rfl ⟨rfl, rfl⟩ ?_
        | refine CallD0 (c_GoodI (delX (tickX w)) (hI.1.turn (by omega)).ok) rfl rfl rfl ?_
        | refine CallD0 (c_GoodS (delX (tickX w)) (hI.1.turn (by omega)).ok) rfl rfl rfl ?_
        | refine CallDT (c_TickM w2 hJ.1 (by omega)) rfl rfl rfl ⟨rfl, rfl⟩ ?_
        | refine CallDT (c_DelM w2 hJ.1 (by omega)) rfl rfl rfl ⟨rfl, rfl⟩ ?_)
    | refine ix_map_at hx ?_
    | refine ix_map_at hy ?_
    | refine sl_pre (by omega) (fun _ => rfl) ?_
    | refine sl_suf (by omega) (fun _ => rfl) ?_
    | (refine ix_map2 hx (by omega) (by (try simp only [List.length_take]); omega) (fun y hy => ?_); try simp only [Int.toNat_natCast] at hy)
    | (refine ix_map (by omega) (by (try simp only [List.length_take]); omega) (fun x hx => ?_); try simp only [Int.toNat_natCast] at hx)
    | refine side_and (side_of (by first | (and_intros <;> first | exact Nat.le_of_ble_eq_true rfl | rfl | omega | (simp only [List.length_map, List.length_append, List.length_replicate, List.length_take, List.length_cons, List.length_nil, List.length_drop, List.length_set, markList_length, midL_len, mkL_length]; omega) | exact bytes_ok (Nat.le_of_ble_eq_true rfl) (by omega) (by simp only [List.length_map, List.length_append, List.length_replicate, List.length_take, List.length_cons, List.length_nil, List.length_drop, List.length_set, markList_length, midL_len, mkL_length]; omega) | exact bytes_okN (Nat.le_of_ble_eq_true rfl) (by simp only [List.length_map, List.length_append, List.length_replicate, List.length_take, List.length_cons, List.length_nil, List.length_drop, List.length_set, markList_length, midL_len, mkL_length]; omega)) | fail)) ?_
    | refine nilB_intro (fun h => ?_) ?_
    | refine side_and (side_of (show Go.Ab.structOk _ _ = true by kernel_rfl)) ?_
    | refine side_and (side_of (map_len (fun _ => rfl))) ?_
    | refine side_and (side_of (map_one (fun _ => rfl) _)) ?_
    | refine side_and ?_ ?_
    | refine LoadK_of rfl rfl ?_
    | refine LoadD_cel rfl rfl rfl rfl ?_
    | refine LoadD_of rfl ?_
    | refine StoreD_of rfl rfl rfl ?_
    | refine AppD_of rfl (by and_intros <;> first | rfl | decide) (by simp only [List.length_map, List.length_append, List.length_take, List.length_cons, List.length_nil]; first | (refine ⟨by omega, ?_⟩; refine Nat.le_trans (Nat.mul_le_mul_left _ (show _ ≤ 512 by decide)) ?_; omega) | fail) ?_
    | refine AppN_of rfl rfl (by and_intros <;> rfl) (by simp only [List.length_map, List.length_append, List.length_take, List.length_cons, List.length_nil]; first | (refine ⟨by omega, ?_⟩; refine Nat.le_trans (Nat.mul_le_mul_left _ (show _ ≤ 512 by decide)) ?_; omega) | fail) ?_
    | (show False; omega)
  all_goals
    conv => whnf
    first
    | exact OutA_plain rfl rfl rfl
    | exact absurd (Mid.lenW ((hI.1.sendX (by omega) (by omega) (by assumption)).turn (by omega)) (by omega)) (by assumption)
    | exact absurd (Mid.lenV ((hI.1.sendX (by omega) (by omega) (by assumption)).turn (by omega)) (by omega)) (by assumption)
    | exact absurd (Mid.lenW ((hI.1.loseX (by assumption)).turn (by omega)) (by omega)) (by assumption)
    | exact absurd (Mid.lenV ((hI.1.loseX (by assumption)).turn (by omega)) (by omega)) (by assumption)
    | exact absurd (Mid.lenW ((hI.1.dupX (by assumption)).turn (by omega)) (by omega)) (by assumption)
    | exact absurd (Mid.lenV ((hI.1.dupX (by assumption)).turn (by omega)) (by omega)) (by assumption)
    | exact absurd (Mid.lenW ((hI.1.lateX (by omega) (by assumption)).turn (by omega)) (by omega)) (by assumption)
    | exact absurd (Mid.lenV ((hI.1.lateX (by omega) (by assumption)).turn (by omega)) (by omega)) (by assumption)
    | exact absurd (Mid.lenW (hI.1.turn (by omega)) (by omega)) (by assumption)
    | exact absurd (Mid.lenV (hI.1.turn (by omega)) (by omega)) (by assumption)
    | (exfalso; have hc := hJ.1.len; omega)
    | (exfalso
       have hU := hJ.1.none (hJ.2.1.resolve_left (by omega)) (by omega)
       have hc := hJ.1.len
       simp only [hU, List.length_nil] at *
       omega)
    | skip
end Go.Proofs.Ytkalobhgonaibaa
