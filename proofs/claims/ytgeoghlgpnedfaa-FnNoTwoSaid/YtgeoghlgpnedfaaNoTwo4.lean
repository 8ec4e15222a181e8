/-
  FnNoTwo's law.
  No condition.
-/
import Derived.Test.YtgeoghlgpnedfaaNoTwo3
import Derived.Test.YtgeoghlgpnedfaaFrz
namespace Go.Proofs.Ytgeoghlgpnedfaa
open Go.Ab
set_option linter.unusedSimpArgs false
set_option maxRecDepth 20000
set_option maxHeartbeats 4000000
set_option linter.unusedVariables false

def clk (code : List Int) (i : Nat) : ClockT := ⟨IntKind.i64.wrap ((vA code i).tmod 11 - 5)⟩
def clks (code : List Int) (n : Nat) : List ClockT := (List.range n).map (clk code)
theorem clk_in {code : List Int} {i : Nat} (h : okL okU code) : -5 ≤ (clk code i).Off ∧ (clk code i).Off ≤ 5 := by
  have hv := vA_in (n := i) h
  unfold clk
  show -5 ≤ IntKind.i64.wrap _ ∧ IntKind.i64.wrap _ ≤ 5
  rw [Int.tmod_eq_emod_of_nonneg hv.1, i64_wrap (by omega) (by omega)]
  omega
theorem clks_next {code : List Int} {n : Nat} {L : List (List AV)} (hL : L = [(clk code n).cells]) : (clks code n).map ClockT.cells ++ L = (clks code (n + 1)).map ClockT.cells := by
  unfold clks
  rw [List.range_succ, List.map_append, List.map_append, hL]; rfl
def startW (code : List Int) : WatchT := ⟨0, clks code 4, []⟩
theorem start_ok {code : List Int} (h : okL okU code) : okWatch (startW code) = true := by
  have hc : (clks code 4).all okClock = true := by
    rw [List.all_eq_true]
    intro c hc
    obtain ⟨i, _, rfl⟩ := List.mem_map.1 hc
    have := clk_in (i := i) h
    unfold okClock inB
    simp only [Bool.and_eq_true, decide_eq_true_eq]
    exact this
  unfold okWatch
  have e : (startW code).Clocks.all okClock = true := hc
  rw [e]
  rfl
theorem start_inv {code : List Int} (h : okL okU code) : invW (startW code) := ⟨start_ok h, List.Pairwise.nil⟩
theorem ix_ints {ks : List Int} {L : List (List AV)} {n : Int} {Q : List AV → Prop} (hL : L = ks.map intC) (h : n.toNat < ks.length) (hQ : ∀ k : Int, Q (intC k)) : ∃ e, L[n.toNat]? = some e ∧ Q e := by
  subst hL
  exact ⟨intC ks[n.toNat], by rw [List.getElem?_map, List.getElem?_eq_getElem h]; rfl, hQ _⟩
theorem seven_in {code : List Int} {n : Nat} (h : okL okU code) : 0 ≤ (vA code n).tmod 7 ∧ (vA code n).tmod 7 < 7 := by
  have hv := vA_in (n := n) h
  rw [Int.tmod_eq_emod_of_nonneg hv.1]; omega
theorem wrap_nat {i m : Nat} (h : i + m ≤ 1000) : IntKind.i64.wrap ((i : Int) + (m : Nat)) = ((i + m : Nat) : Int) := by
  rw [i64_wrap (by omega) (by omega)]; omega
theorem c_HoldersOf2 (w : WatchT) (hi : invW w) : PC Try.prog false 20 [.agg w.cells] (.tup [.own 0, .bool true]) [⟨false, 3, 1, (holders w).map intC⟩] := by
  have h := c_impl_HoldersOf w (watch_okk hi.1).1 (watch_okk hi.1).2
  rw [hi.1] at h
  exact h
theorem one_no {n : Nat} (h : n ≤ 1) : decide ((n : Int) > 1) = false := decide_eq_false (by omega)
theorem hone (w : WatchT) (a : ActT) (hi : invW w) : ((holders (playW w [a])).map intC).length ≤ 1 := by
  rw [List.length_map]; exact holders_one (play_inv hi)
theorem lt_seven {n : Int} {m : Nat} (h : m = 7) (h2 : n < 7) : n < (m : Int) := by rw [h]; exact h2
theorem c_laws_FnNoTwo (code : List Int) (hu : okL okU code) : PC Try.prog false 3 [.sl (code.map u8C)] (.bool true) [] := by
  have hs := start_ok hu
  have hsi := start_inv hu
  have hso := watch_okk hs
  have hcl : (clks code 4).length = 4 := by simp [clks]
  have hck : okL ClockT.ok (clks code 4) := ⟨by omega, fun _ _ => trivial⟩
  have hnI := c_impl_NewWatch (clks code 4) hck (by omega)
  have hnS := c_spec_NewWatch (clks code 4) hck (by omega)
  rw [show okWatch (newW (clks code 4)) = true from hs] at hnI hnS
  refine pc_at Try.func3 rfl (by kernel_rfl) 121 [.tmp 2] rfl rfl ?_
  repeat' (conv => whnf); first
    | refine side_and (side_of (one_lenC rfl rfl)) ?_
    | refine side_and (side_of (by first | (and_intros <;> first | exact Nat.le_of_ble_eq_true rfl | rfl | (intro e; exact absurd (AV.own.inj e) (by decide)) | (intro e; exact AV.noConfusion e)) | fail)) ?_
    | refine side_and (side_of (app_boundC (L := (clks code i).map ClockT.cells) rfl (by simp only [clks, List.length_map, List.length_range]; omega) (Nat.le_of_ble_eq_true rfl))) ?_
    | exact side_of ⟨(seven_in hu).1, lt_seven rfl (seven_in hu).2⟩
    | refine nameB_no (one_no (hone _ _ hI.1)) ?_
    | refine ix_ints (ks := [1, 1, 1, 2, 2, 3, 4]) rfl (by have hq := seven_in (n := i + 4) hu; show _ < 7; omega) (fun k => ?_)
    | refine nameB_true ?_
    | refine nameB_false ?_
    | refine nameB_yes (by assumption) ?_
    | refine nameB_no (by assumption) ?_
    | refine nameB_dyes (by assumption) ?_
    | refine nameB_dno (by assumption) ?_
    | (refine nameB_dec (fun h => ?_) (fun h => ?_) <;> try simp only [List.length_map, List.length_take, List.length_append, List.length_drop, List.length_set, markList_length, midL_len, mkL_length, Int.toNat_natCast, fact_byte] at h)
    | (refine nameB_cases (fun h => ?_) (fun h => ?_) <;> try simp only [bne_iff_ne, ne_eq, bne_eq_false_iff_eq, beq_iff_eq, beq_eq_false_iff_ne, Bool.not_eq_true', Bool.not_eq_false', Bool.or_eq_true, Bool.or_eq_false_iff, List.length_map, List.length_take, List.length_append, List.length_drop, List.length_set, markList_length, midL_len, mkL_length, Int.toNat_natCast, fact_byte] at h)
    | refine splitB_true ?_
    | refine splitB_false ?_
    | (refine splitB_intro (fun h => ?_) (fun h => ?_) <;> subst h)
    | refine ⟨⟨by kernel_rfl, by kernel_rfl, by kernel_rfl⟩, ?_⟩
    | (show Go.Ab.Loop _ _ _; first
        | (refine Loop_nil 3 1 27 1 rfl rfl (by decide) ?_; refine Loop_at [0] [] (Nat) (fun i => i ≤ 4) (fun i => [(4, .int .i64 (i : Nat)), (3, .own 1)]) (fun i => [(1, ⟨false, 27, 1, (clks code i).map ClockT.cells⟩)]) (fun i => 4 - i) 0 ⟨by first | (simp_all <;> fail) | rfl | fail, by first | rfl | (simp_all <;> fail) | fail, trivial⟩ ⟨by first | rfl | exact congrArg (fun e => some (AObj.mk _ _ _ e)) (clks_next rfl) | fail | fail, trivial⟩ (by (try dsimp only); first | (exact Nat.zero_le _) | fail) ?_; (conv => whnf); refine side_and (side_of (by first | exact fun i => rfl | exact fun i => by simp [headOk, closedE, closedO, closedL, AV.closed, hcap.closed])) ?_; rintro i hK; try dsimp only at hK)
        | (refine Loop_frz [32784, 32785] ?_; refine Loop_at [0, 5] [] (Nat × WatchT) (fun j => match j with | (i, w) => invW w ∧ i ≤ 60) (fun j => match j with | (i, w) => [(9, .int .i64 (i : Nat))]) (fun j => match j with | (i, w) => [(32848, ⟨true, 30, 3, [w.cells]⟩)]) (fun j => match j with | (i, w) => 60 - i) (0, startW code) ⟨by first | (simp_all <;> fail) | rfl | fail, trivial⟩ ⟨by first | rfl | exact congrArg (fun e => some (AObj.mk _ _ _ e)) (set_rep hx) | exact congrArg (fun e => some (AObj.mk _ _ _ e)) start_rep | fail | fail, trivial⟩ (by (try dsimp only); first | (exact ⟨hsi, Nat.zero_le _⟩) | fail) ?_; (conv => whnf); refine side_and (side_of (by first | exact fun ⟨i, w⟩ => rfl | exact fun ⟨i, w⟩ => by simp [headOk, closedE, closedO, closedL, AV.closed, hcap.closed])) ?_; rintro ⟨i, w⟩ hI; try dsimp only at hI))
    | (show Go.Ab.Again _ _ _ _ _ _ _ _ _ _ _; first
        | refine Again_of (i + 1) ⟨by first | rfl | exact i64_next (by omega) | (simp_all <;> fail) | fail, by first | rfl | (simp_all <;> fail) | fail, trivial⟩ ⟨by first | rfl | exact congrArg (fun e => some (AObj.mk _ _ _ e)) (clks_next rfl) | fail | fail, trivial⟩ (by first | (and_intros <;> first | rfl | trivial) | fail) (by first | (and_intros <;> first | rfl | trivial) | fail) rfl rfl rfl (by (try dsimp only); first | ((show i + 1 ≤ _; omega)) | fail) (show _ < _ by (try dsimp only); omega)
        | refine Again_of (i + 1, playW w [⟨_, _, _⟩]) ⟨by first | rfl | exact i64_next (by omega) | (simp_all <;> fail) | fail, trivial⟩ ⟨by first | rfl | exact congrArg (fun e => some (AObj.mk _ _ _ e)) (set_rep hx) | exact congrArg (fun e => some (AObj.mk _ _ _ e)) start_rep | fail | fail, trivial⟩ (by first | (and_intros <;> first | rfl | trivial) | fail) (by first | (and_intros <;> first | rfl | trivial) | fail) rfl rfl rfl (by (try dsimp only); first | (exact ⟨play_inv hI.1, by omega⟩) | fail) (show _ < _ by (try dsimp only); omega))
    | (show Go.Ab.CallA _ _ _ _ _ _ _; first
        | refine Call0 (c_laws_vBig code) rfl rfl ?_
        | refine Call0 (c_laws_vAt code i hu (by omega) (by omega)) rfl rfl ?_
        | (obtain rfl : i = 4 := (by omega); refine CallF hnI rfl rfl rfl (Nat.le_of_ble_eq_true rfl) ?_)
        | refine CallF (hnS) rfl rfl rfl (Nat.le_of_ble_eq_true rfl) ?_
        | refine Call0 (c_laws_vWatch (startW code) hs) rfl rfl ?_
        | refine Call0 (c_laws_vWatch (playW w [⟨_, _, _⟩]) (play_inv hI.1).1) rfl rfl ?_
        | refine Call0 (c_laws_vAt code (i + 6) hu (by omega) (by omega)) (congrArg (fun x => [AV.sl (code.map u8C), AV.int .i64 x]) (wrap_nat (m := 6) (by omega))) rfl ?_
        | refine CallF (c_HoldersOf2 (playW w [⟨_, _, _⟩]) (play_inv hI.1)) rfl rfl rfl (Nat.le_of_ble_eq_true rfl) ?_)
    | (show Go.Ab.CallD _ _ _ _ _ _ _; first
        | refine CallD0 (c_laws_vAt code (i + 4) hu (by omega) (by omega)) (congrArg (fun x => [AV.sl (code.map u8C), AV.int .i64 x]) (wrap_nat (m := 4) (by omega))) rfl rfl ?_
        | refine CallD0 (c_laws_vAt code (i + 5) hu (by omega) (by omega)) (congrArg (fun x => [AV.sl (code.map u8C), AV.int .i64 x]) (wrap_nat (m := 5) (by omega))) rfl rfl ?_
        | refine CallD0 (c_laws_vAt code (i + 6) hu (by omega) (by omega)) (congrArg (fun x => [AV.sl (code.map u8C), AV.int .i64 x]) (wrap_nat (m := 6) (by omega))) rfl rfl ?_
        | refine CallD0 (c_laws_vBig code) rfl rfl rfl ?_
        | refine CallD0 (c_laws_vAt code i hu (by omega) (by omega)) rfl rfl rfl ?_
        | refine CallDF (hnS) rfl rfl ⟨rfl, rfl⟩ ?_
        | refine CallD0 (c_laws_vWatch (startW code) hs) rfl rfl rfl ?_
        | refine CallD0 (c_laws_vWatch (playW w [⟨_, _, _⟩]) (play_inv hI.1).1) rfl rfl rfl ?_
        | refine CallD0 (c_laws_vAt code (i + 6) hu (by omega) (by omega)) (congrArg (fun x => [AV.sl (code.map u8C), AV.int .i64 x]) (wrap_nat (m := 6) (by omega))) rfl ?_
        | refine CallDF (c_HoldersOf2 (playW w [⟨_, _, _⟩]) (play_inv hI.1)) rfl rfl ⟨rfl, rfl⟩ ?_)
    | refine ix_map_at hx ?_
    | refine ix_map_at hy ?_
    | refine sl_pre (by omega) (fun _ => rfl) ?_
    | refine sl_suf (by omega) (fun _ => rfl) ?_
    | (refine ix_map2 hx (by omega) (by (try simp only [List.length_take]); omega) (fun y hy => ?_); try simp only [Int.toNat_natCast] at hy)
    | (refine ix_map (by omega) (by (try simp only [List.length_take]); omega) (fun x hx => ?_); try simp only [Int.toNat_natCast] at hx)
    | refine side_and (side_of (by first | (and_intros <;> first | exact Nat.le_of_ble_eq_true rfl | rfl | omega | (simp only [List.length_map, List.length_append, List.length_replicate, List.length_take, List.length_cons, List.length_nil, List.length_drop, List.length_set, markList_length, midL_len, mkL_length]; omega) | exact bytes_ok (Nat.le_of_ble_eq_true rfl) (by omega) (by simp only [List.length_map, List.length_append, List.length_replicate, List.length_take, List.length_cons, List.length_nil, List.length_drop, List.length_set, markList_length, midL_len, mkL_length]; omega) | exact bytes_okN (Nat.le_of_ble_eq_true rfl) (by simp only [List.length_map, List.length_append, List.length_replicate, List.length_take, List.length_cons, List.length_nil, List.length_drop, List.length_set, markList_length, midL_len, mkL_length]; omega)) | fail)) ?_
    | refine nilB_intro (fun h => ?_) ?_
    | refine side_and (side_of (show Go.Ab.structOk _ _ = true by kernel_rfl)) ?_
    | refine side_and (side_of (map_len (fun _ => rfl))) ?_
    | refine side_and (side_of (map_one (fun _ => rfl) _)) ?_
    | refine side_and ?_ ?_
    | refine LoadK_of rfl rfl ?_
    | refine LoadD_cel rfl rfl rfl rfl ?_
    | refine LoadD_of rfl ?_
    | refine StoreD_of rfl rfl rfl ?_
    | refine AppD_of rfl (by and_intros <;> first | rfl | decide) (by simp only [List.length_map, List.length_append, List.length_take, List.length_cons, List.length_nil]; first | (refine ⟨by omega, ?_⟩; refine Nat.le_trans (Nat.mul_le_mul_left _ (show _ ≤ 512 by decide)) ?_; omega) | fail) ?_
    | refine AppN_of rfl rfl (by and_intros <;> rfl) (by simp only [List.length_map, List.length_append, List.length_take, List.length_cons, List.length_nil]; first | (refine ⟨by omega, ?_⟩; refine Nat.le_trans (Nat.mul_le_mul_left _ (show _ ≤ 512 by decide)) ?_; omega) | fail) ?_
    | (show Go.Ab.CallA _ _ [_, .own _] _ _ _ _; refine CallTo (c_impl_PlayWatch w [⟨_, _, _⟩] hI.1 (Nat.le_of_ble_eq_true rfl)) rfl rfl rfl rfl ?_)
    | (show Go.Ab.CallA _ _ [_, .own _] _ _ _ _; refine CallTo (c_spec_PlayWatch w [⟨_, _, _⟩] hI.1 (Nat.le_of_ble_eq_true rfl)) rfl rfl rfl rfl ?_)
    | (show False; omega)
  all_goals
    conv => whnf
    exact OutA_plain rfl rfl rfl
end Go.Proofs.Ytgeoghlgpnedfaa
