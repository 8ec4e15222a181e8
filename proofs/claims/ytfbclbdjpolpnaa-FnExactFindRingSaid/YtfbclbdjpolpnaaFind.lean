/-
  What the functions that look for a ring give.
  No condition.
-/
import Derived.Test.YtfbclbdjpolpnaaFindM
import Derived.Test.YtfbclbdjpolpnaaInts
namespace Go.Proofs.Ytfbclbdjpolpnaa
open Go.Ab Go.FR
set_option linter.unusedSimpArgs false
set_option maxRecDepth 20000
set_option maxHeartbeats 4000000
set_option linter.unusedVariables false

/-- The numbers of a graph lie below its length. -/
def okG (ws : List (List Int)) : Bool := ws.all fun r => r.all fun w => inB 0 w ((ws.length : Int) - 1)
theorem okG_row {ws : List (List Int)} (h : okG ws = true) {u : Nat} {x : Int} (hx : x ∈ row ws u) : 0 ≤ x ∧ x < ws.length := by
  unfold row at hx
  cases hr : ws[u]? with
  | none => rw [hr] at hx; simp at hx
  | some r =>
    rw [hr] at hx
    have h1 := List.all_eq_true.1 h r (List.mem_of_getElem? hr)
    have h2 := List.all_eq_true.1 h1 x hx
    simp only [inB, Bool.and_eq_true, decide_eq_true_eq] at h2
    omega
theorem okG_nn {ws : List (List Int)} (h : okG ws = true) : Nn ws := fun u x hx => (okG_row h hx).1
theorem okG_cl {ws : List (List Int)} (h : okG ws = true) : Cl ws := fun u y hy => by
  obtain ⟨x, hx, rfl⟩ := nb_mem hy
  have := okG_row h hx
  omega
theorem row_of {ws : List (List Int)} {u : Nat} {r : List Int} (h : ws[u]? = some r) : row ws u = r := by unfold row; rw [h]; rfl
/-- The list of distances within a round. -/
def midR (ws : List (List Int)) (t m v : Nat) : List Int := (List.range ws.length).map fun u => ((if u < v then L ws t (m + 1) u else L ws t m u : Nat) : Int)
theorem midR_len {ws : List (List Int)} {t m v : Nat} : (midR ws t m v).length = ws.length := by simp [midR]
theorem midR_get {ws : List (List Int)} {t m v u : Nat} (h : u < ws.length) : (midR ws t m v)[u]? = some ((if u < v then L ws t (m + 1) u else L ws t m u : Nat) : Int) := by
  simp [midR, h]
theorem midR_at {ws : List (List Int)} {t m v u : Nat} {x : Int} (hx : (midR ws t m v)[u]? = some x) : x = ((if u < v then L ws t (m + 1) u else L ws t m u : Nat) : Int) ∧ u < ws.length := by
  have h : u < ws.length := by
    have := (List.getElem?_eq_some_iff.1 hx).1
    rwa [midR_len] at this
  rw [midR_get h] at hx
  exact ⟨(Option.some.inj hx).symm, h⟩
theorem midR_self {ws : List (List Int)} {t m v : Nat} {x : Int} (hx : (midR ws t m v)[v]? = some x) : x = (L ws t m v : Int) := by
  have := (midR_at hx).1
  rwa [if_neg (Nat.lt_irrefl v)] at this
theorem midR_hit {ws : List (List Int)} {t m v : Nat} (hv : v < ws.length) (h0 : L ws t m v = 0) (h : (nb ws v).any (fun x => if m = 0 then decide (x = t) else decide (L ws t m x = m)) = true) : (midR ws t m v).set v ((m : Int) + 1) = midR ws t m (v + 1) := by
  apply List.ext_getElem?
  intro u
  by_cases hu : u < ws.length
  · by_cases e : u = v
    · subst e
      rw [List.getElem?_set_self (by rw [midR_len]; exact hu), midR_get hu, if_pos (Nat.lt_succ_self u), L_step, if_pos ⟨h0, h⟩]
      rfl
    · rw [List.getElem?_set_ne (Ne.symm e), midR_get hu, midR_get hu]
      by_cases h3 : u < v
      · rw [if_pos h3, if_pos (by omega)]
      · rw [if_neg h3, if_neg (by omega)]
  · rw [List.getElem?_eq_none (by rw [List.length_set, midR_len]; omega), List.getElem?_eq_none (by rw [midR_len]; omega)]
theorem midR_miss {ws : List (List Int)} {t m v : Nat} (h : ¬ (L ws t m v = 0 ∧ (nb ws v).any (fun x => if m = 0 then decide (x = t) else decide (L ws t m x = m)) = true)) : midR ws t m v = midR ws t m (v + 1) := by
  apply List.ext_getElem?
  intro u
  by_cases hu : u < ws.length
  · rw [midR_get hu, midR_get hu]
    by_cases e : u = v
    · subst e
      rw [if_neg (Nat.lt_irrefl u), if_pos (Nat.lt_succ_self u), L_step, if_neg h]
    · by_cases h3 : u < v
      · rw [if_pos h3, if_pos (by omega)]
      · rw [if_neg h3, if_neg (by omega)]
  · rw [List.getElem?_eq_none (by rw [midR_len]; omega), List.getElem?_eq_none (by rw [midR_len]; omega)]
theorem midR_round {ws : List (List Int)} {t m : Nat} : midR ws t m ws.length = midR ws t (m + 1) 0 := by
  apply List.ext_getElem?
  intro u
  by_cases hu : u < ws.length
  · rw [midR_get hu, midR_get hu, if_pos hu, if_neg (Nat.not_lt_zero u)]
  · rw [List.getElem?_eq_none (by rw [midR_len]; omega), List.getElem?_eq_none (by rw [midR_len]; omega)]
theorem midR_zero {ws : List (List Int)} {t : Nat} : midR ws t 0 0 = List.replicate ws.length 0 := by
  apply List.ext_getElem?
  intro u
  by_cases hu : u < ws.length
  · rw [midR_get hu, if_neg (Nat.not_lt_zero u)]
    simp [hu, L]
  · rw [List.getElem?_eq_none (by rw [midR_len]; omega), List.getElem?_eq_none (by rw [List.length_replicate]; omega)]
def distL (ws : List (List Int)) (t : Nat) : List Int := midR ws t ws.length 0
theorem distL_get {ws : List (List Int)} {t u : Nat} (h : u < ws.length) : (distL ws t)[u]? = some (D ws t u : Int) := by
  unfold distL
  rw [midR_get h, if_neg (Nat.not_lt_zero u)]
  rfl
/-- The test of one neighbour. -/
def hitF (far to : Int) (out : List Int) (w : Int) : Bool := (far == 1 && w == to) || (decide (far > 1) && (at' out w.toNat == far - 1))
theorem mid_any {ws : List (List Int)} (hg : okG ws = true) {t m v : Nat} {r : List Int} (hr : ws[v]? = some r) : r.any (hitF ((m : Int) + 1) t (midR ws t m v)) = (nb ws v).any (fun x => if m = 0 then decide (x = t) else decide (L ws t m x = m)) := by
  unfold nb
  rw [hr, Option.getD_some, List.any_map]
  have key : ∀ w ∈ r, hitF ((m : Int) + 1) t (midR ws t m v) w = ((fun x : Nat => if m = 0 then decide (x = t) else decide (L ws t m x = m)) ∘ Int.toNat) w := by
    intro w hw
    have hw2 := okG_row hg (u := v) (x := w) (by rw [row_of hr]; exact hw)
    have hat : at' (midR ws t m v) w.toNat = ((if w.toNat < v then L ws t (m + 1) w.toNat else L ws t m w.toNat : Nat) : Int) := by
      unfold at'
      rw [midR_get (by omega)]
      rfl
    unfold hitF
    rw [hat, Function.comp]
    by_cases hm : m = 0
    · subst hm
      rw [if_pos rfl, Bool.eq_iff_iff]
      simp only [Bool.or_eq_true, Bool.and_eq_true, beq_iff_eq, decide_eq_true_eq]
      omega
    · rw [if_neg hm, Bool.eq_iff_iff]
      simp only [Bool.or_eq_true, Bool.and_eq_true, beq_iff_eq, decide_eq_true_eq]
      by_cases hv : w.toNat < v
      · rw [if_pos hv, ← L_same hm]
        omega
      · rw [if_neg hv]
        omega
  rw [Bool.eq_iff_iff, List.any_eq_true, List.any_eq_true]
  exact ⟨fun ⟨w, h1, h2⟩ => ⟨w, h1, by rw [← key w h1]; exact h2⟩, fun ⟨w, h1, h2⟩ => ⟨w, h1, by rw [key w h1]; exact h2⟩⟩
theorem ix_get {xs : List Int} {n : Int} {Q : List AV → Prop} (h0 : 0 ≤ n) (h : n.toNat < xs.length) (hQ : Q (intC (at' xs n.toNat))) : ∃ y, (xs.map intC)[n.toNat]? = some y ∧ Q y :=
  ⟨intC (at' xs n.toNat), by unfold at'; rw [List.getElem?_map, List.getElem?_eq_getElem h]; rfl, hQ⟩
theorem ix_getS {xs : List Int} {n : Int} {Q : List AV → Prop} (h0 : 0 ≤ n) (h : n.toNat < xs.length) (hQ : Q (intC (at' xs n.toNat))) : 0 ≤ n ∧ ∃ y, (xs.map intC)[n.toNat]? = some y ∧ Q y :=
  ⟨h0, ix_get h0 h hQ⟩
theorem c_impl_distances_1 (w far to : Int) (out : List Int) (hw : 0 ≤ w ∧ w < out.length) (hf : 1 ≤ far ∧ far ≤ 100) : PC Try.prog false 158 [.int .i64 w, .rp [.int .i64 far], .rp [.int .i64 to], .rp [.sl (out.map intC)]] (.bool (hitF far to out w)) [] := by
  refine pc_at Try.func158 rfl (by kernel_rfl) 26 [.tmp 5] rfl rfl ?_
  repeat' (conv => whnf); first
    | refine ix_getS hw.1 (by omega) ?_
    | refine nameB_true ?_
    | refine nameB_false ?_
    | refine nameB_yes (by assumption) ?_
    | refine nameB_no (by assumption) ?_
    | refine nameB_dyes (by assumption) ?_
    | refine nameB_dno (by assumption) ?_
    | (refine nameB_dec (fun h => ?_) (fun h => ?_) <;> try simp only [List.length_map, List.length_take, List.length_append, List.length_drop, List.length_set, markList_length, midL_len, mkL_length, Int.toNat_natCast, fact_byte] at h)
    | (refine nameB_cases (fun h => ?_) (fun h => ?_) <;> try simp only [bne_iff_ne, ne_eq, bne_eq_false_iff_eq, beq_iff_eq, beq_eq_false_iff_ne, Bool.not_eq_true', Bool.not_eq_false', Bool.or_eq_true, Bool.or_eq_false_iff, List.length_map, List.length_take, List.length_append, List.length_drop, List.length_set, markList_length, midL_len, mkL_length, Int.toNat_natCast, fact_byte] at h)
    | refine splitB_true ?_
    | refine splitB_false ?_
    | (refine splitB_intro (fun h => ?_) (fun h => ?_) <;> subst h)
    | refine draw_text (by kernel_rfl) (by kernel_rfl) (by kernel_rfl) ?_
    | refine both_intro ?_ ?_
    | refine ix_map_at hx ?_
    | refine ix_map_at hy ?_
    | refine sl_pre (by omega) (fun _ => rfl) ?_
    | refine sl_suf (by omega) (fun _ => rfl) ?_
    | (refine ix_map2 hx (by omega) (by (try simp only [List.length_take]); omega) (fun y hy => ?_); try simp only [Int.toNat_natCast] at hy)
    | (refine ix_map (by omega) (by (try simp only [List.length_take]); omega) (fun x hx => ?_); try simp only [Int.toNat_natCast] at hx)
    | refine side_and (side_of (by first | (and_intros <;> first | exact Nat.le_of_ble_eq_true rfl | rfl | omega | (simp only [List.length_map, List.length_append, List.length_replicate, List.length_take, List.length_cons, List.length_nil, List.length_drop, List.length_set, markList_length, midL_len, mkL_length]; omega) | exact bytes_ok (Nat.le_of_ble_eq_true rfl) (by omega) (by simp only [List.length_map, List.length_append, List.length_replicate, List.length_take, List.length_cons, List.length_nil, List.length_drop, List.length_set, markList_length, midL_len, mkL_length]; omega) | exact bytes_okN (Nat.le_of_ble_eq_true rfl) (by simp only [List.length_map, List.length_append, List.length_replicate, List.length_take, List.length_cons, List.length_nil, List.length_drop, List.length_set, markList_length, midL_len, mkL_length]; omega)) | fail)) ?_
    | refine nilB_intro (fun h => ?_) ?_
    | refine side_and (side_of (show Go.Ab.structOk _ _ = true by kernel_rfl)) ?_
    | refine side_and (side_of (map_len (fun _ => rfl))) ?_
    | refine side_and (side_of (map_one (fun _ => rfl) _)) ?_
    | refine side_and ?_ ?_
    | refine LoadK_of rfl rfl ?_
    | refine LoadD_cel rfl rfl rfl rfl ?_
    | refine LoadD_of rfl ?_
    | refine StoreD_of rfl rfl rfl ?_
    | refine AppD_of rfl (by and_intros <;> first | rfl | decide) (by simp only [List.length_map, List.length_append, List.length_take, List.length_cons, List.length_nil]; first | (refine ⟨by omega, ?_⟩; refine Nat.le_trans (Nat.mul_le_mul_left _ (show _ ≤ 512 by decide)) ?_; omega) | fail) ?_
    | refine AppN_of rfl rfl (by and_intros <;> rfl) (by simp only [List.length_map, List.length_append, List.length_take, List.length_cons, List.length_nil]; first | (refine ⟨by omega, ?_⟩; refine Nat.le_trans (Nat.mul_le_mul_left _ (show _ ≤ 512 by decide)) ?_; omega) | fail) ?_
    | (show False; omega)
  all_goals
    conv => whnf
    refine OutA_plain rfl rfl ?_
    (try rw [i64_wrap (e := far - 1) (by omega) (by omega)] at *)
    first
    | rfl
    | (simp_all [hitF, named, AV.sub, AV.sub.subL]; done)
    | (simp_all [hitF, named, AV.sub, AV.sub.subL] <;> omega)
theorem midR_set {ws : List (List Int)} (hg : okG ws = true) {t m v : Nat} {r : List Int} (hv : v < ws.length) (hr : ws[v]? = some r) (h0 : at' (midR ws t m v) v = 0) (h : r.any (hitF ((m : Int) + 1) t (midR ws t m v)) = true) : ((midR ws t m v).map intC).set v [.int .i64 ((m : Int) + 1)] = (midR ws t m (v + 1)).map intC := by
  have e : at' (midR ws t m v) v = (L ws t m v : Int) := by
    unfold at'
    rw [midR_get hv, if_neg (Nat.lt_irrefl v)]
    rfl
  rw [← midR_hit hv (by omega) (by rw [← mid_any hg hr]; exact h), List.map_set]
  rfl
theorem midR_no1 {ws : List (List Int)} {t m v : Nat} (hv : v < ws.length) (h0 : ¬ at' (midR ws t m v) v = 0) : midR ws t m v = midR ws t m (v + 1) := by
  have e : at' (midR ws t m v) v = (L ws t m v : Int) := by
    unfold at'
    rw [midR_get hv, if_neg (Nat.lt_irrefl v)]
    rfl
  exact midR_miss fun h => h0 (by omega)
theorem midR_no2 {ws : List (List Int)} (hg : okG ws = true) {t m v : Nat} {r : List Int} (hr : ws[v]? = some r) (h : r.any (hitF ((m : Int) + 1) t (midR ws t m v)) = false) : midR ws t m v = midR ws t m (v + 1) := by
  refine midR_miss fun h2 => ?_
  rw [mid_any hg hr, h2.2] at h
  cases h
theorem obj_eq {a b : List Int} (h : a = b) : some (AObj.mk (BK.ofB false) 3 1 (a.map intC)) = some (AObj.mk (BK.ofB false) 3 1 (b.map intC)) := by rw [h]
theorem midR_end {ws : List (List Int)} {t m v : Nat} (h : v = ws.length) : midR ws t m v = midR ws t (m + 1) 0 := by rw [h]; exact midR_round
theorem far_next {m : Nat} (h : m ≤ 1000) : IntKind.i64.wrap ((m : Int) + 1 + 1) = ((m + 1 : Nat) : Int) + 1 := by
  rw [i64_wrap (by omega) (by omega)]; omega
theorem midR_start {ws : List (List Int)} {t n : Nat} (h : n = ws.length) : List.replicate n [AV.int .i64 0] = (midR ws t 0 0).map intC := by
  rw [midR_zero, h, List.map_replicate]; rfl
theorem c_impl_distances (ws : List (List Int)) (t : Nat) (hg : okG ws = true) (hl : ws.length ≤ 20) (hrow : ∀ r ∈ ws, r.length ≤ 9223372036854775807) : PC Try.prog false 94 [.sl (ws.map (sC intC)), .int .i64 (t : Nat)] (.own 0) [⟨false, 3, 1, (distL ws t).map intC⟩] := by
  refine pc_at Try.func94 rfl (by kernel_rfl) 42 [.tmp 4] rfl rfl ?_
  repeat' (conv => whnf); first
    | (refine ix_as (f := sC intC) (m := v) rfl (by omega) (fun r hr => ?_))
    | refine ix_getS (by omega) (by simp only [midR_len]; omega) ?_
    | refine ix_get (by omega) (by simp only [midR_len]; omega) ?_
    | exact side_of (by first | (simp only [List.length_map, midR_len]; omega) | fail)
    | exact side_of (by first | (refine ⟨?_, ?_⟩ <;> simp only [List.length_map, midR_len] <;> omega) | fail)
    | refine nameB_true ?_
    | refine nameB_false ?_
    | refine nameB_yes (by assumption) ?_
    | refine nameB_no (by assumption) ?_
    | refine nameB_dyes (by assumption) ?_
    | refine nameB_dno (by assumption) ?_
    | (refine nameB_dec (fun h => ?_) (fun h => ?_) <;> try simp only [List.length_map, List.length_take, List.length_append, List.length_drop, List.length_set, markList_length, midL_len, mkL_length, Int.toNat_natCast, fact_byte] at h)
    | (refine nameB_cases (fun h => ?_) (fun h => ?_) <;> try simp only [bne_iff_ne, ne_eq, bne_eq_false_iff_eq, beq_iff_eq, beq_eq_false_iff_ne, Bool.not_eq_true', Bool.not_eq_false', Bool.or_eq_true, Bool.or_eq_false_iff, List.length_map, List.length_take, List.length_append, List.length_drop, List.length_set, markList_length, midL_len, mkL_length, Int.toNat_natCast, fact_byte] at h)
    | refine splitB_true ?_
    | refine splitB_false ?_
    | (refine splitB_intro (fun h => ?_) (fun h => ?_) <;> subst h)
    | refine draw_text (by kernel_rfl) (by kernel_rfl) (by kernel_rfl) ?_
    | refine both_intro ?_ ?_
    | (show Go.Ab.Loop _ _ _; first
        | (refine Loop_at [0, 3, 5] [0, 4144] (Nat) (fun m => m ≤ ws.length) (fun m => [(6, .ptr 8192 0 0)]) (fun m => [(8192, ⟨true, 3, 1, [[.int .i64 ((m : Int) + 1)]]⟩), (4128, ⟨false, 3, 1, (midR ws t m 0).map intC⟩)]) (fun m => ws.length - m) 0 ⟨by first | rfl | first | rfl | fail, trivial⟩ ⟨by first | rfl | first | rfl | exact congrArg (fun e => some (AObj.mk _ _ _ e)) (midR_start (by simp)) | exact obj_eq (midR_end (by omega)) | exact congrArg (fun z => some (AObj.mk _ _ _ [[AV.int .i64 z]])) (far_next (by omega)) | fail | fail, by first | rfl | first | rfl | exact congrArg (fun e => some (AObj.mk _ _ _ e)) (midR_start (by simp)) | exact obj_eq (midR_end (by omega)) | exact congrArg (fun z => some (AObj.mk _ _ _ [[AV.int .i64 z]])) (far_next (by omega)) | fail | fail, trivial⟩ (by (try dsimp only); first | (exact Nat.zero_le _) | fail) ?_; (conv => whnf); refine side_and (side_of (by first | exact fun m => rfl | exact fun m => by simp [headOk, closedE, closedO, closedL, AV.closed, hcap.closed])) ?_; rintro m hT; try dsimp only at hT)
        | (refine Loop_at [0, 3, 5, 6, 18, 19] [0, 4144, 8192] (Nat) (fun v => v ≤ ws.length) (fun v => [(20, .int .i64 (v : Nat))]) (fun v => [(4128, ⟨false, 3, 1, (midR ws t m v).map intC⟩)]) (fun v => ws.length - v) 0 ⟨by first | (simp_all <;> fail) | rfl | fail, trivial⟩ ⟨by first | rfl | first | rfl | exact congrArg (fun e => some (AObj.mk _ _ _ e)) (midR_set hg (by omega) hr (by assumption) (by assumption)) | exact obj_eq (midR_no1 (by omega) (by assumption)) | exact obj_eq (midR_no2 hg hr (by assumption)) | fail | fail, trivial⟩ (by (try dsimp only); first | (exact Nat.zero_le _) | fail) ?_; (conv => whnf); refine side_and (side_of (by first | exact fun v => rfl | exact fun v => by simp [headOk, closedE, closedO, closedL, AV.closed, hcap.closed])) ?_; rintro v hV; try dsimp only at hV))
    | (show Go.Ab.Again _ _ _ _ _ _ _ _ _ _ _; first
        | refine Again_ren 49152 8192 (by decide) rfl ?_; (conv => whnf); refine Again_of (m + 1) ⟨by first | rfl | first | rfl | fail, trivial⟩ ⟨by first | rfl | first | rfl | exact congrArg (fun e => some (AObj.mk _ _ _ e)) (midR_start (by simp)) | exact obj_eq (midR_end (by omega)) | exact congrArg (fun z => some (AObj.mk _ _ _ [[AV.int .i64 z]])) (far_next (by omega)) | fail | fail, by first | rfl | first | rfl | exact congrArg (fun e => some (AObj.mk _ _ _ e)) (midR_start (by simp)) | exact obj_eq (midR_end (by omega)) | exact congrArg (fun z => some (AObj.mk _ _ _ [[AV.int .i64 z]])) (far_next (by omega)) | fail | fail, trivial⟩ (by first | (and_intros <;> first | rfl | trivial) | fail) (by first | (and_intros <;> first | rfl | trivial) | fail) rfl rfl rfl (by (try dsimp only); first | ((show m + 1 ≤ _; omega)) | fail) (show _ < _ by (try dsimp only); omega)
        | refine Again_of (v + 1) ⟨by first | rfl | exact i64_next (by omega) | (simp_all <;> fail) | fail, trivial⟩ ⟨by first | rfl | first | rfl | exact congrArg (fun e => some (AObj.mk _ _ _ e)) (midR_set hg (by omega) hr (by assumption) (by assumption)) | exact obj_eq (midR_no1 (by omega) (by assumption)) | exact obj_eq (midR_no2 hg hr (by assumption)) | fail | fail, trivial⟩ (by first | (and_intros <;> first | rfl | trivial) | fail) (by first | (and_intros <;> first | rfl | trivial) | fail) rfl rfl rfl (by (try dsimp only); first | ((show v + 1 ≤ _; omega)) | fail) (show _ < _ by (try dsimp only); omega))
    | (show Go.Ab.CallA _ _ _ _ _ _ _; refine Call0 (c_ContainsFunc_int r 158 [.rp [.int .i64 ((m : Int) + 1)], .rp [.int .i64 (t : Nat)], .rp [.sl ((midR ws t m v).map intC)]] (hitF ((m : Int) + 1) t (midR ws t m v)) (hrow r (List.mem_of_getElem? hr)) ⟨fun _ => rfl, fun _ => rfl, fun _ => rfl, fun _ => rfl, fun _ => rfl⟩ (fun y hy => c_impl_distances_1 y _ _ _ (by have := okG_row hg (u := v) (x := y) (by rw [row_of hr]; exact hy); rw [midR_len]; exact this) (by omega))) rfl rfl ?_)
    | refine ix_map_at hx ?_
    | refine ix_map_at hy ?_
    | refine sl_pre (by omega) (fun _ => rfl) ?_
    | refine sl_suf (by omega) (fun _ => rfl) ?_
    | (refine ix_map2 hx (by omega) (by (try simp only [List.length_take]); omega) (fun y hy => ?_); try simp only [Int.toNat_natCast] at hy)
    | (refine ix_map (by omega) (by (try simp only [List.length_take]); omega) (fun x hx => ?_); try simp only [Int.toNat_natCast] at hx)
    | refine side_and (side_of (by first | (and_intros <;> first | exact Nat.le_of_ble_eq_true rfl | rfl | omega | (simp only [List.length_map, List.length_append, List.length_replicate, List.length_take, List.length_cons, List.length_nil, List.length_drop, List.length_set, markList_length, midL_len, mkL_length]; omega) | exact bytes_ok (Nat.le_of_ble_eq_true rfl) (by omega) (by simp only [List.length_map, List.length_append, List.length_replicate, List.length_take, List.length_cons, List.length_nil, List.length_drop, List.length_set, markList_length, midL_len, mkL_length]; omega) | exact bytes_okN (Nat.le_of_ble_eq_true rfl) (by simp only [List.length_map, List.length_append, List.length_replicate, List.length_take, List.length_cons, List.length_nil, List.length_drop, List.length_set, markList_length, midL_len, mkL_length]; omega)) | fail)) ?_
    | refine nilB_intro (fun h => ?_) ?_
    | refine side_and (side_of (show Go.Ab.structOk _ _ = true by kernel_rfl)) ?_
    | refine side_and (side_of (map_len (fun _ => rfl))) ?_
    | refine side_and (side_of (map_one (fun _ => rfl) _)) ?_
    | refine side_and ?_ ?_
    | refine LoadK_of rfl rfl ?_
    | refine LoadD_cel rfl rfl rfl rfl ?_
    | refine LoadD_of rfl ?_
    | refine StoreD_of rfl rfl rfl ?_
    | refine AppD_of rfl (by and_intros <;> first | rfl | decide) (by simp only [List.length_map, List.length_append, List.length_take, List.length_cons, List.length_nil]; first | (refine ⟨by omega, ?_⟩; refine Nat.le_trans (Nat.mul_le_mul_left _ (show _ ≤ 512 by decide)) ?_; omega) | fail) ?_
    | refine AppN_of rfl rfl (by and_intros <;> rfl) (by simp only [List.length_map, List.length_append, List.length_take, List.length_cons, List.length_nil]; first | (refine ⟨by omega, ?_⟩; refine Nat.le_trans (Nat.mul_le_mul_left _ (show _ ≤ 512 by decide)) ?_; omega) | fail) ?_
    | (show False; omega)
  all_goals
    conv => whnf
    first
    | exact OutA_ids rfl rfl rfl ⟨⟨_, _, _, rfl, congrArg (fun n => AObj.mk _ _ _ ((midR ws t n 0).map intC)) (by omega)⟩, trivial⟩ rfl (.inr (flat_one (flat_map (fun _ => rfl) _)))
theorem nextG_hit {e : Int → Int} {l : List Int} {i : Nat} {b x B : Int} (h : nextG e b (l.drop i) = B) (hx : l[i]? = some x) (hc : e x ≥ 0 ∧ (b < 0 ∨ e x < e b ∨ (e x = e b ∧ x < b))) : nextG e x (l.drop (i + 1)) = B := by
  rw [drop_get hx] at h
  unfold nextG at h
  rw [if_pos (by simp only [Bool.and_eq_true, Bool.or_eq_true, decide_eq_true_eq]; omega)] at h
  exact h
theorem nextG_skip {e : Int → Int} {l : List Int} {i : Nat} {b x B : Int} (h : nextG e b (l.drop i) = B) (hx : l[i]? = some x) (hc : ¬ (e x ≥ 0 ∧ (b < 0 ∨ e x < e b ∨ (e x = e b ∧ x < b)))) : nextG e b (l.drop (i + 1)) = B := by
  rw [drop_get hx] at h
  unfold nextG at h
  rw [if_neg (by simp only [Bool.and_eq_true, Bool.or_eq_true, decide_eq_true_eq]; omega)] at h
  exact h
theorem nextG_end {e : Int → Int} {l : List Int} {i : Nat} {b B : Int} (h : nextG e b (l.drop i) = B) (hk : ¬ (i : Int) < l.length) : b = B := by
  rw [List.drop_eq_nil_of_le (by omega)] at h
  exact h
theorem nextG_congr {e e' : Int → Int} : ∀ (l : List Int) (b : Int), (∀ x ∈ l, e x = e' x) → (b < 0 ∨ e b = e' b) → nextG e b l = nextG e' b l
  | [], _, _, _ => rfl
  | x :: xs, b, h, hb => by
    have hx := h x (by simp)
    have hxs : ∀ y ∈ xs, e y = e' y := fun y hy => h y (by simp [hy])
    unfold nextG
    by_cases hc : e x ≥ 0 ∧ (b < 0 ∨ e x < e b ∨ (e x = e b ∧ x < b))
    · rw [if_pos (by simp only [Bool.and_eq_true, Bool.or_eq_true, decide_eq_true_eq]; omega), if_pos (by simp only [Bool.and_eq_true, Bool.or_eq_true, decide_eq_true_eq]; omega)]
      exact nextG_congr xs x hxs (.inr hx)
    · rw [if_neg (by simp only [Bool.and_eq_true, Bool.or_eq_true, decide_eq_true_eq]; omega), if_neg (by simp only [Bool.and_eq_true, Bool.or_eq_true, decide_eq_true_eq]; omega)]
      exact nextG_congr xs b hxs hb
theorem c_spec_l12Next (l far : List Int) (hb : ∀ x ∈ l, 0 ≤ x ∧ x < far.length) (hl : l.length ≤ 9223372036854775807) : PC Try.prog false 89 [.sl (l.map intC), .sl (far.map intC)] (.int .i64 (next (fun x => at' far x.toNat) l)) [] := by
  refine pc_at Try.func89 rfl (by kernel_rfl) 53 [.tmp 4] rfl rfl ?_
  repeat' (conv => whnf); first
    | (refine ix_as (f := intC) (m := i) rfl (by omega) (fun x hx => ?_); have hbx := hb x (List.mem_of_getElem? hx))
    | refine ix_getS (by omega) (by omega) ?_
    | refine nameB_true ?_
    | refine nameB_false ?_
    | refine nameB_yes (by assumption) ?_
    | refine nameB_no (by assumption) ?_
    | refine nameB_dyes (by assumption) ?_
    | refine nameB_dno (by assumption) ?_
    | (refine nameB_dec (fun h => ?_) (fun h => ?_) <;> try simp only [List.length_map, List.length_take, List.length_append, List.length_drop, List.length_set, markList_length, midL_len, mkL_length, Int.toNat_natCast, fact_byte] at h)
    | (refine nameB_cases (fun h => ?_) (fun h => ?_) <;> try simp only [bne_iff_ne, ne_eq, bne_eq_false_iff_eq, beq_iff_eq, beq_eq_false_iff_ne, Bool.not_eq_true', Bool.not_eq_false', Bool.or_eq_true, Bool.or_eq_false_iff, List.length_map, List.length_take, List.length_append, List.length_drop, List.length_set, markList_length, midL_len, mkL_length, Int.toNat_natCast, fact_byte] at h)
    | refine splitB_true ?_
    | refine splitB_false ?_
    | (refine splitB_intro (fun h => ?_) (fun h => ?_) <;> subst h)
    | refine draw_text (by kernel_rfl) (by kernel_rfl) (by kernel_rfl) ?_
    | refine both_intro ?_ ?_
    | (show Go.Ab.Loop _ _ _; (refine Loop_at [1, 8, 9] [] (Nat × Int) (fun j => match j with | (i, b) => nextG (fun x => at' far x.toNat) b (l.drop i) = next (fun x => at' far x.toNat) l ∧ i ≤ l.length ∧ (b < 0 ∨ (0 ≤ b ∧ b < far.length))) (fun j => match j with | (i, b) => [(5, .int .i64 b), (10, .int .i64 (i : Nat))]) (fun j => match j with | (i, b) => []) (fun j => match j with | (i, b) => l.length - i) (0, -1) ⟨by first | rfl | rfl | fail, by first | rfl | rfl | fail, trivial⟩ trivial (by (try dsimp only); first | (exact ⟨rfl, Nat.zero_le _, .inl (by decide)⟩) | fail) ?_; (conv => whnf); refine side_and (side_of (by first | exact fun ⟨i, b⟩ => rfl | exact fun ⟨i, b⟩ => by simp [headOk, closedE, closedO, closedL, AV.closed, hcap.closed])) ?_; rintro ⟨i, b⟩ hT; try dsimp only at hT))
    | (show Go.Ab.Again _ _ _ _ _ _ _ _ _ _ _; first
        | refine Again_of (i + 1, x) ⟨by first | rfl | rfl | fail, by first | rfl | exact i64_next (by omega) | rfl | fail, trivial⟩ trivial (by first | (and_intros <;> first | rfl | trivial) | fail) (by first | (and_intros <;> first | rfl | trivial) | fail) rfl rfl rfl (by (try dsimp only); first | (first | exact ⟨nextG_hit hT.1 hx (by (try dsimp only); omega), by omega, .inr (hb x (List.mem_of_getElem? hx))⟩ | exact ⟨nextG_skip hT.1 hx (by (try dsimp only); omega), by omega, hT.2.2⟩) | fail) (show _ < _ by (try dsimp only); omega)
        | refine Again_of (i + 1, b) ⟨by first | rfl | rfl | fail, by first | rfl | exact i64_next (by omega) | rfl | fail, trivial⟩ trivial (by first | (and_intros <;> first | rfl | trivial) | fail) (by first | (and_intros <;> first | rfl | trivial) | fail) rfl rfl rfl (by (try dsimp only); first | (first | exact ⟨nextG_hit hT.1 hx (by (try dsimp only); omega), by omega, .inr (hb x (List.mem_of_getElem? hx))⟩ | exact ⟨nextG_skip hT.1 hx (by (try dsimp only); omega), by omega, hT.2.2⟩) | fail) (show _ < _ by (try dsimp only); omega))
    | refine ix_map_at hx ?_
    | refine ix_map_at hy ?_
    | refine sl_pre (by omega) (fun _ => rfl) ?_
    | refine sl_suf (by omega) (fun _ => rfl) ?_
    | (refine ix_map2 hx (by omega) (by (try simp only [List.length_take]); omega) (fun y hy => ?_); try simp only [Int.toNat_natCast] at hy)
    | (refine ix_map (by omega) (by (try simp only [List.length_take]); omega) (fun x hx => ?_); try simp only [Int.toNat_natCast] at hx)
    | refine side_and (side_of (by first | (and_intros <;> first | exact Nat.le_of_ble_eq_true rfl | rfl | omega | (simp only [List.length_map, List.length_append, List.length_replicate, List.length_take, List.length_cons, List.length_nil, List.length_drop, List.length_set, markList_length, midL_len, mkL_length]; omega) | exact bytes_ok (Nat.le_of_ble_eq_true rfl) (by omega) (by simp only [List.length_map, List.length_append, List.length_replicate, List.length_take, List.length_cons, List.length_nil, List.length_drop, List.length_set, markList_length, midL_len, mkL_length]; omega) | exact bytes_okN (Nat.le_of_ble_eq_true rfl) (by simp only [List.length_map, List.length_append, List.length_replicate, List.length_take, List.length_cons, List.length_nil, List.length_drop, List.length_set, markList_length, midL_len, mkL_length]; omega)) | fail)) ?_
    | refine nilB_intro (fun h => ?_) ?_
    | refine side_and (side_of (show Go.Ab.structOk _ _ = true by kernel_rfl)) ?_
    | refine side_and (side_of (map_len (fun _ => rfl))) ?_
    | refine side_and (side_of (map_one (fun _ => rfl) _)) ?_
    | refine side_and ?_ ?_
    | refine LoadK_of rfl rfl ?_
    | refine LoadD_cel rfl rfl rfl rfl ?_
    | refine LoadD_of rfl ?_
    | refine StoreD_of rfl rfl rfl ?_
    | refine AppD_of rfl (by and_intros <;> first | rfl | decide) (by simp only [List.length_map, List.length_append, List.length_take, List.length_cons, List.length_nil]; first | (refine ⟨by omega, ?_⟩; refine Nat.le_trans (Nat.mul_le_mul_left _ (show _ ≤ 512 by decide)) ?_; omega) | fail) ?_
    | refine AppN_of rfl rfl (by and_intros <;> rfl) (by simp only [List.length_map, List.length_append, List.length_take, List.length_cons, List.length_nil]; first | (refine ⟨by omega, ?_⟩; refine Nat.le_trans (Nat.mul_le_mul_left _ (show _ ≤ 512 by decide)) ?_; omega) | fail) ?_
    | (show False; omega)
  all_goals
    conv => whnf
    refine OutA_plain rfl rfl ?_
    exact congrArg (AV.int .i64) (nextG_end hT.1 (by omega))
theorem neg_set {n k : Nat} (hk : k < n) : (((List.replicate k (-1 : Int) ++ List.replicate (n - k) 0).map intC).set k [AV.int .i64 (-1)]) = (List.replicate (k + 1) (-1 : Int) ++ List.replicate (n - (k + 1)) 0).map intC := by
  obtain ⟨j, hj⟩ : ∃ j, n - k = j + 1 := ⟨n - k - 1, by omega⟩
  rw [hj, show n - (k + 1) = j by omega, List.replicate_succ, List.map_append, List.map_append, List.set_append_right _ _ (by simp)]
  simp only [List.length_map, List.length_replicate, Nat.sub_self, List.map_cons, List.set_cons_zero]
  rw [List.replicate_succ' (n := k)]
  simp [intC]
theorem rep_start {n m : Nat} (h : m = n) : List.replicate m [AV.int .i64 0] = ((List.replicate 0 (-1 : Int) ++ List.replicate (n - 0) 0).map intC) := by
  rw [h]; simp [intC]
theorem neg_end {ws : List (List Int)} {t k : Nat} (hk : ¬ (k : Int) < ws.length) (h2 : k ≤ ws.length) : (((List.replicate k (-1 : Int) ++ List.replicate (ws.length - k) 0).map intC).set t [AV.int .i64 0]) = (far0 ws t).map intC := by
  have : k = ws.length := by omega
  subst this
  unfold far0
  rw [Nat.sub_self, List.replicate_zero, List.append_nil, List.map_set]
  rfl
theorem far_set {f : List Int} {k : Nat} {d : Int} : (f.map intC).set k [AV.int .i64 d] = (f.set k d).map intC := by
  rw [List.map_set]; rfl
theorem far_setw {f : List Int} {k : Nat} {d : Int} (h0 : -9223372036854775808 ≤ d + 1) (h1 : d + 1 ≤ 9223372036854775807) : (f.map intC).set k [AV.int .i64 (IntKind.i64.wrap (d + 1))] = (f.set k (d + 1)).map intC := by
  rw [i64_wrap (by omega) (by omega)]; exact far_set
theorem nb_get {ws : List (List Int)} {k i : Nat} {r : List Int} {x : Int} (hr : ws[k]? = some r) (hx : r[i]? = some x) : (nb ws k)[i]? = some x.toNat := by
  unfold nb
  rw [hr, Option.getD_some, List.getElem?_map, hx]
  rfl
theorem nb_len {ws : List (List Int)} {k : Nat} {r : List Int} (hr : ws[k]? = some r) : (nb ws k).length = r.length := by
  unfold nb
  rw [hr, Option.getD_some, List.length_map]
theorem Mid_len {ws : List (List Int)} {t r k i : Nat} {f : List Int} (h : Mid ws t r k i f) : f.length = ws.length := h.snd.len
theorem snd_le {ws : List (List Int)} {t : Nat} {f : List Int} (h : Snd ws t f) {u : Nat} : -1 ≤ at' f u := by
  by_cases hu : u < ws.length
  · rcases h.ok u hu with h | h <;> omega
  · unfold at'
    rw [List.getElem?_eq_none (by rw [h.len]; omega)]
    decide
/-- No distance is great. -/
def Bnd (f : List Int) (B : Int) : Prop := ∀ u, at' f u ≤ B
theorem Bnd.mono {f : List Int} {A B : Int} (h : Bnd f A) (hAB : A ≤ B) : Bnd f B := fun u => Int.le_trans (h u) hAB
theorem Bnd.step {f : List Int} {A B : Int} {k x : Nat} (h : Bnd f A) (hk : k < f.length) (hAB : A + 1 ≤ B) : Bnd (f.set k (at' f x + 1)) B := fun u => by
  rw [at_set hk]
  have h1 := h u
  have h2 := h x
  split <;> omega
theorem Bnd.start {ws : List (List Int)} {t : Nat} (ht : t < ws.length) : Bnd (far0 ws t) 0 := fun u => by
  unfold far0
  rw [at_set (by simpa using ht)]
  split
  · omega
  · unfold at'
    by_cases hu : u < ws.length
    · simp [hu]
    · rw [List.getElem?_eq_none (by rw [List.length_replicate]; omega)]; decide
theorem c_spec_l12Far (ws : List (List Int)) (t : Nat) (hg : okG ws = true) (ht : t < ws.length) (hl : ws.length ≤ 20) (hrow : ∀ r ∈ ws, r.length ≤ 1048576) : PC Try.prog false 88 [.sl (ws.map (sC intC)), .int .i64 (t : Nat)] (.own 0) [⟨false, 3, 1, (farL ws t).map intC⟩] := by
  have hc := okG_cl hg
  refine pc_at Try.func88 rfl (by kernel_rfl) 79 [.tmp 4] rfl rfl ?_
  repeat' (conv => whnf); first
    | (refine ix_as (f := sC intC) (m := k) rfl (by omega) (fun rw hrw => ?_); have hrwl := hrow rw (List.mem_of_getElem? hrw))
    | (refine ix_as (f := intC) (m := i) rfl (by omega) (fun x hx => ?_); have hbx := okG_row hg (u := k) (x := x) (by rw [row_of hrw]; exact List.mem_of_getElem? hx); have hfl := Mid_len hI.1; have hbd := hI.2.2 x.toNat; have hbs := snd_le hI.1.snd (u := x.toNat); have hwp := i64_wrap (e := at' f x.toNat + 1) (by omega) (by omega))
    | refine ix_getS (by omega) (by omega) ?_
    | refine ix_get (by omega) (by first | omega | (simp only [List.length_append, List.length_replicate, Int.toNat_natCast]; omega)) ?_
    | exact side_of (by first | (simp only [List.length_map, List.length_append, List.length_replicate]; omega) | fail)
    | exact side_of (by first | (refine ⟨?_, ?_⟩ <;> simp only [List.length_map, List.length_append, List.length_replicate] <;> omega) | fail)
    | refine nameB_true ?_
    | refine nameB_false ?_
    | refine nameB_yes (by assumption) ?_
    | refine nameB_no (by assumption) ?_
    | refine nameB_dyes (by assumption) ?_
    | refine nameB_dno (by assumption) ?_
    | (refine nameB_dec (fun h => ?_) (fun h => ?_) <;> try simp only [List.length_map, List.length_take, List.length_append, List.length_drop, List.length_set, markList_length, midL_len, mkL_length, Int.toNat_natCast, fact_byte] at h)
    | (refine nameB_cases (fun h => ?_) (fun h => ?_) <;> try simp only [bne_iff_ne, ne_eq, bne_eq_false_iff_eq, beq_iff_eq, beq_eq_false_iff_ne, Bool.not_eq_true', Bool.not_eq_false', Bool.or_eq_true, Bool.or_eq_false_iff, List.length_map, List.length_take, List.length_append, List.length_drop, List.length_set, markList_length, midL_len, mkL_length, Int.toNat_natCast, fact_byte] at h)
    | refine splitB_true ?_
    | refine splitB_false ?_
    | (refine splitB_intro (fun h => ?_) (fun h => ?_) <;> subst h)
    | refine draw_text (by kernel_rfl) (by kernel_rfl) (by kernel_rfl) ?_
    | refine both_intro ?_ ?_
    | (show Go.Ab.Loop _ _ _; first
        | (refine Loop_at [0, 1, 5] [] (Nat) (fun k => k ≤ ws.length) (fun k => [(15, .int .i64 (ws.length)), (16, .int .i64 (k : Nat))]) (fun k => [(4128, ⟨false, 3, 1, (List.replicate k (-1 : Int) ++ List.replicate (ws.length - k) 0).map intC⟩)]) (fun k => ws.length - k) 0 ⟨by first | first | rfl | exact congrArg (fun n : Nat => AV.int .i64 (n : Int)) (by simp) | rfl | fail, by first | first | rfl | exact congrArg (fun n : Nat => AV.int .i64 (n : Int)) (by simp) | rfl | fail, trivial⟩ ⟨by first | rfl | first | rfl | exact congrArg (fun e => some (AObj.mk _ _ _ e)) (neg_set (by omega)) | exact congrArg (fun e => some (AObj.mk _ _ _ e)) (rep_start (by simp)) | fail | fail, trivial⟩ (by (try dsimp only); first | (exact Nat.zero_le _) | fail) ?_; (conv => whnf); refine side_and (side_of (by first | exact fun k => rfl | exact fun k => by simp [headOk, closedE, closedO, closedL, AV.closed, hcap.closed])) ?_; rintro k hT; try dsimp only at hT)
        | (refine Loop_at [0, 5, 27] [] (Nat × List Int) (fun j => match j with | (r, f) => Mid ws t r 0 0 f ∧ r ≤ ws.length ∧ Bnd f ((r : Int) * 20971520)) (fun j => match j with | (r, f) => [(28, .int .i64 (r : Nat))]) (fun j => match j with | (r, f) => [(4128, ⟨false, 3, 1, f.map intC⟩)]) (fun j => match j with | (r, f) => ws.length - r) (0, far0 ws t) ⟨by first | rfl | rfl | fail, trivial⟩ ⟨by first | rfl | first | rfl | exact congrArg (fun e => some (AObj.mk _ _ _ e)) (neg_end (by assumption) hT) | fail | fail, trivial⟩ (by (try dsimp only); first | (exact ⟨Mid.start ht, Nat.zero_le _, (Bnd.start ht).mono (by omega)⟩) | fail) ?_; (conv => whnf); refine side_and (side_of (by first | exact fun ⟨r, f⟩ => rfl | exact fun ⟨r, f⟩ => by simp [headOk, closedE, closedO, closedL, AV.closed, hcap.closed])) ?_; rintro ⟨r, f⟩ hR; try dsimp only at hR)
        | (refine Loop_at [0, 5, 27, 28, 30, 31] [] (Nat × List Int) (fun j => match j with | (k, f) => Mid ws t r k 0 f ∧ k ≤ ws.length ∧ Bnd f ((r : Int) * 20971520 + (k : Int) * 1048576)) (fun j => match j with | (k, f) => [(32, .int .i64 (k : Nat))]) (fun j => match j with | (k, f) => [(4128, ⟨false, 3, 1, f.map intC⟩)]) (fun j => match j with | (k, f) => ws.length - k) (0, f) ⟨by first | rfl | rfl | fail, trivial⟩ ⟨by first | rfl | first | rfl | fail | fail, trivial⟩ (by (try dsimp only); first | (exact ⟨hR.1, Nat.zero_le _, hR.2.2.mono (by omega)⟩) | fail) ?_; (conv => whnf); refine side_and (side_of (by first | exact fun ⟨k, f⟩ => rfl | exact fun ⟨k, f⟩ => by simp [headOk, closedE, closedO, closedL, AV.closed, hcap.closed])) ?_; rintro ⟨k, f⟩ hK; try dsimp only at hK)
        | (refine Loop_at [0, 5, 7, 27, 28, 30, 31, 32, 37, 38] [] (Nat × List Int) (fun j => match j with | (i, f) => Mid ws t r k i f ∧ i ≤ rw.length ∧ Bnd f ((r : Int) * 20971520 + (k : Int) * 1048576 + (i : Int))) (fun j => match j with | (i, f) => [(39, .int .i64 (i : Nat))]) (fun j => match j with | (i, f) => [(4128, ⟨false, 3, 1, f.map intC⟩)]) (fun j => match j with | (i, f) => rw.length - i) (0, f) ⟨by first | rfl | rfl | fail, trivial⟩ ⟨by first | rfl | first | rfl | exact congrArg (fun e => some (AObj.mk _ _ _ e)) far_set | exact congrArg (fun e => some (AObj.mk _ _ _ e)) (far_setw (by omega) (by omega)) | fail | fail, trivial⟩ (by (try dsimp only); first | (exact ⟨hK.1, Nat.zero_le _, hK.2.2.mono (by omega)⟩) | fail) ?_; (conv => whnf); refine side_and (side_of (by first | exact fun ⟨i, f⟩ => rfl | exact fun ⟨i, f⟩ => by simp [headOk, closedE, closedO, closedL, AV.closed, hcap.closed])) ?_; rintro ⟨i, f⟩ hI; try dsimp only at hI))
    | (show Go.Ab.Again _ _ _ _ _ _ _ _ _ _ _; first
        | refine Again_of (k + 1) ⟨by first | first | rfl | exact congrArg (fun n : Nat => AV.int .i64 (n : Int)) (by simp) | rfl | fail, by first | rfl | exact i64_next (by omega) | first | rfl | exact congrArg (fun n : Nat => AV.int .i64 (n : Int)) (by simp) | fail, trivial⟩ ⟨by first | rfl | first | rfl | exact congrArg (fun e => some (AObj.mk _ _ _ e)) (neg_set (by omega)) | exact congrArg (fun e => some (AObj.mk _ _ _ e)) (rep_start (by simp)) | fail | fail, trivial⟩ (by first | (and_intros <;> first | rfl | trivial) | fail) (by first | (and_intros <;> first | rfl | trivial) | fail) rfl rfl rfl (by (try dsimp only); first | ((show k + 1 ≤ _; omega)) | fail) (show _ < _ by (try dsimp only); omega)
        | refine Again_of (r + 1, f) ⟨by first | rfl | exact i64_next (by omega) | rfl | fail, trivial⟩ ⟨by first | rfl | first | rfl | exact congrArg (fun e => some (AObj.mk _ _ _ e)) (neg_end (by assumption) hT) | fail | fail, trivial⟩ (by first | (and_intros <;> first | rfl | trivial) | fail) (by first | (and_intros <;> first | rfl | trivial) | fail) rfl rfl rfl (by (try dsimp only); first | (exact ⟨Mid.round (by have e : k = ws.length := (by omega); rw [e] at hK; exact hK.1), by omega, hK.2.2.mono (by omega)⟩) | fail) (show _ < _ by (try dsimp only); omega)
        | refine Again_of (k + 1, f) ⟨by first | rfl | exact i64_next (by omega) | rfl | fail, trivial⟩ ⟨by first | rfl | first | rfl | fail | fail, trivial⟩ (by first | (and_intros <;> first | rfl | trivial) | fail) (by first | (and_intros <;> first | rfl | trivial) | fail) rfl rfl rfl (by (try dsimp only); first | (exact ⟨Mid.next (by omega) hI.1 (by rw [nb_len hrw]; omega), by omega, hI.2.2.mono (by omega)⟩) | fail) (show _ < _ by (try dsimp only); omega)
        | refine Again_of (i + 1, f.set k (at' f x.toNat + 1)) ⟨by first | rfl | exact i64_next (by omega) | rfl | fail, trivial⟩ ⟨by first | rfl | first | rfl | exact congrArg (fun e => some (AObj.mk _ _ _ e)) far_set | exact congrArg (fun e => some (AObj.mk _ _ _ e)) (far_setw (by omega) (by omega)) | fail | fail, trivial⟩ (by first | (and_intros <;> first | rfl | trivial) | fail) (by first | (and_intros <;> first | rfl | trivial) | fail) rfl rfl rfl (by (try dsimp only); first | (first | exact ⟨Mid.relax hc (by omega) hI.1 (nb_get hrw hx) (by omega), by omega, hI.2.2.step (by omega) (by omega)⟩ | exact ⟨Mid.skip hc hI.1 (nb_get hrw hx) (by omega), by omega, hI.2.2.mono (by omega)⟩) | fail) (show _ < _ by (try dsimp only); omega)
        | refine Again_of (i + 1, f) ⟨by first | rfl | exact i64_next (by omega) | rfl | fail, trivial⟩ ⟨by first | rfl | first | rfl | exact congrArg (fun e => some (AObj.mk _ _ _ e)) far_set | exact congrArg (fun e => some (AObj.mk _ _ _ e)) (far_setw (by omega) (by omega)) | fail | fail, trivial⟩ (by first | (and_intros <;> first | rfl | trivial) | fail) (by first | (and_intros <;> first | rfl | trivial) | fail) rfl rfl rfl (by (try dsimp only); first | (first | exact ⟨Mid.relax hc (by omega) hI.1 (nb_get hrw hx) (by omega), by omega, hI.2.2.step (by omega) (by omega)⟩ | exact ⟨Mid.skip hc hI.1 (nb_get hrw hx) (by omega), by omega, hI.2.2.mono (by omega)⟩) | fail) (show _ < _ by (try dsimp only); omega))
    | refine ix_map_at hx ?_
    | refine ix_map_at hy ?_
    | refine sl_pre (by omega) (fun _ => rfl) ?_
    | refine sl_suf (by omega) (fun _ => rfl) ?_
    | (refine ix_map2 hx (by omega) (by (try simp only [List.length_take]); omega) (fun y hy => ?_); try simp only [Int.toNat_natCast] at hy)
    | (refine ix_map (by omega) (by (try simp only [List.length_take]); omega) (fun x hx => ?_); try simp only [Int.toNat_natCast] at hx)
    | refine side_and (side_of (by first | (and_intros <;> first | exact Nat.le_of_ble_eq_true rfl | rfl | omega | (simp only [List.length_map, List.length_append, List.length_replicate, List.length_take, List.length_cons, List.length_nil, List.length_drop, List.length_set, markList_length, midL_len, mkL_length]; omega) | exact bytes_ok (Nat.le_of_ble_eq_true rfl) (by omega) (by simp only [List.length_map, List.length_append, List.length_replicate, List.length_take, List.length_cons, List.length_nil, List.length_drop, List.length_set, markList_length, midL_len, mkL_length]; omega) | exact bytes_okN (Nat.le_of_ble_eq_true rfl) (by simp only [List.length_map, List.length_append, List.length_replicate, List.length_take, List.length_cons, List.length_nil, List.length_drop, List.length_set, markList_length, midL_len, mkL_length]; omega)) | fail)) ?_
    | refine nilB_intro (fun h => ?_) ?_
    | refine side_and (side_of (show Go.Ab.structOk _ _ = true by kernel_rfl)) ?_
    | refine side_and (side_of (map_len (fun _ => rfl))) ?_
    | refine side_and (side_of (map_one (fun _ => rfl) _)) ?_
    | refine side_and ?_ ?_
    | refine LoadK_of rfl rfl ?_
    | refine LoadD_cel rfl rfl rfl rfl ?_
    | refine LoadD_of rfl ?_
    | refine StoreD_of rfl rfl rfl ?_
    | refine AppD_of rfl (by and_intros <;> first | rfl | decide) (by simp only [List.length_map, List.length_append, List.length_take, List.length_cons, List.length_nil]; first | (refine ⟨by omega, ?_⟩; refine Nat.le_trans (Nat.mul_le_mul_left _ (show _ ≤ 512 by decide)) ?_; omega) | fail) ?_
    | refine AppN_of rfl rfl (by and_intros <;> rfl) (by simp only [List.length_map, List.length_append, List.length_take, List.length_cons, List.length_nil]; first | (refine ⟨by omega, ?_⟩; refine Nat.le_trans (Nat.mul_le_mul_left _ (show _ ≤ 512 by decide)) ?_; omega) | fail) ?_
    | (show False; omega)
  all_goals
    conv => whnf
    first
    | exact OutA_ids rfl rfl rfl ⟨⟨_, _, _, rfl, congrArg (fun l => AObj.mk _ _ _ (l.map intC)) (Mid.done hc ht (by have e : r = ws.length := (by omega); subst e; exact hR.1)).symm⟩, trivial⟩ rfl (.inr (flat_one (flat_map (fun _ => rfl) _)))
end Go.Proofs.Ytfbclbdjpolpnaa
